/-
  The Reader's own methods, and Get.
-/
import Derived.Test.YtabljieejnhefaaWire5
namespace Go.Proofs.Ytabljieejnhefaa.Hand
open Go.RowKit Go.Proofs.YtabljieejnhefaaW.PrintWords Go.Proofs.YtabljieejnhefaaW.PrintLast

theorem numL_nz (l : List Int) : ∀ (k i : Nat) (n p : Int) (x : Int), numL l k i n p = .error x → (x != 0) = true
  | 0, i, n, p, x, h => by
    simp only [numL] at h
    injection h with h
    subst h
    rfl
  | k + 1, i, n, p, x, h => by
    simp only [numL] at h
    split at h
    · injection h with h; subst h; rfl
    · split at h
      · injection h with h; subst h; rfl
      · split at h
        · cases h
        · exact numL_nz l k _ _ _ x h
theorem upL_nz (l : List Int) (p m : Int) (x : Int) (h : upL l p m = .error x) : (x != 0) = true := by
  unfold upL at h
  split at h
  · split at h
    · injection h with h; subst h; rfl
    · cases h
  · next y e => injection h with h; subst h; exact numL_nz l _ _ _ _ _ e
/-- The value of a number. -/
def NumV (n : Int) (_ : Nat) (_ : World) (v : Value) : Prop := v = .int .u64 n
theorem numV_stays (n : Int) : Stays (NumV n) where
  mu := fun h _ => h
  lower := fun h _ => h
def posOf : Except Int (Int × Int) → Except Int Int
  | .ok (_, p) => .ok p
  | .error x => .error x
def valOf : Except Int (Int × Int) → Int
  | .ok (n, _) => n
  | .error _ => 0
theorem rd_of_num {F : Nat → Prop} {g : Nat} {l : List Int} {e : Int} {w : World} {R : Except Int (Int × Int)} {b : Nat} {en : Ending} {w' : World} (h : NumPost F g l e w (Value.int .u64) R en w') :
    RdPost (NumV (valOf R)) b F g l e w (posOf R) en w' := by
  cases R with
  | error x => exact h
  | ok np =>
    obtain ⟨h1, h2, h3, h4, h5⟩ := h
    exact ⟨⟨_, h1, rfl⟩, h2, h4, h3, h5⟩
theorem posOf_nz {R : Except Int (Int × Int)} (h : ∀ x, R = .error x → (x != 0) = true) : ∀ x, posOf R = .error x → (x != 0) = true := by
  intro x hx
  cases R with
  | error y => exact h x (by simpa [posOf] using hx)
  | ok np => cases hx
def numOut : Except Int (Int × Int) → Int × Int × Int
  | .ok (n, p) => (n, p, 0)
  | .error x => (0, 0, x)
/-- What Get tells. -/
def getV (l : List Int) (at_ : Int) : Int × Int × Int := if at_ < 0 then (0, 0, 1) else if l.length < at_ then (0, 0, 1) else numOut (numL l 10 0 0 at_)
def wire_Get.f (l0 : List Int) (a1 : Int) : Option (Int × Int × Int) := some (getV l0 a1)
set_option maxHeartbeats 2000000 in
theorem wire_Get.calls (A0 : Option Addr) (c0 : Nat) (l0 : List Int) (a1 : Int) (r1 : Int) (r2 : Int) (r3 : Int) (w : World) (hr0 : Kd.C (Kd.int .u8) w A0 l0.length l0) (hc0 : l0.length ≤ c0) (h : wire_Get.f l0 a1 = some (r1, r2, r3)) :
    Calls Try.prog 10 #[.slice A0 l0.length c0, .int .i64 a1] w fun e w' => e = .returned (.tuple #[.int .u64 r1, .int .i64 r2, .int .i64 r3]) ∧ Below w.heap.size w w' := by
  have hv : getV l0 a1 = (r1, r2, r3) := Option.some.inj h
  clear h
  have hlen := hr0.2.1
  have HR := Aside0.mk hr0
  have HV := Aside0.mk hv
  clear hr0 hv
  by_cases h1 : a1 < 0
  · have hv : (r1, r2, r3) = (0, 0, 1) := by rw [← HV.out]; exact if_pos h1
    obtain ⟨rfl, rfl, rfl⟩ : r1 = 0 ∧ r2 = 0 ∧ r3 = 1 := by simpa using hv
    clear hv HV
    have e1 : decide (a1 < 0) = true := decide_eq_true h1
    go_enter Try.func10, Try.ntmps10
    go_wp2
    go_ret3
    exact ⟨rfl, Below.refl _ _⟩
  by_cases h2 : (l0.length : Int) < a1
  · have hv : (r1, r2, r3) = (0, 0, 1) := by rw [← HV.out]; unfold getV; rw [if_neg h1, if_pos h2]
    obtain ⟨rfl, rfl, rfl⟩ : r1 = 0 ∧ r2 = 0 ∧ r3 = 1 := by simpa using hv
    clear hv HV
    have e1 : decide (a1 < 0) = false := decide_eq_false h1
    have e2 : decide ((l0.length : Int) < a1) = true := decide_eq_true h2
    go_enter Try.func10, Try.ntmps10
    go_wp2
    go_ret3
    exact ⟨rfl, Below.refl _ _⟩
  have e1 : decide (a1 < 0) = false := decide_eq_false h1
  have e2 : decide ((l0.length : Int) < a1) = false := decide_eq_false h2
  have b1 : 0 ≤ a1 := by omega
  have b2 : a1 ≤ l0.length := by omega
  obtain ⟨R, hR⟩ : ∃ R, numL l0 10 0 0 a1 = R := ⟨_, rfl⟩
  have hv : (r1, r2, r3) = numOut R := by
    rw [← HV.out]; unfold getV; rw [if_neg h1, if_neg h2, hR]
  have HVV := Aside0.mk hv
  have HRR := Aside0.mk hR
  clear h1 h2 hv hR HV
  have hmf : ∀ (fn : Fn) (first cap : Array Value) (w : World), (Instr.makeFunc fn first cap).run Try.prog w = .ok (.func fn first cap) w := fun _ _ _ _ => rfl
  obtain ⟨W, hW, hg, hWs, hWb⟩ : ∃ W, w.alloc (.cells #[.slice A0 l0.length c0, .int .i64 a1, .int .i64 0] 57) = W ∧ W.heap[w.heap.size]? = some (.cells #[.slice A0 l0.length c0, .int .i64 a1, .int .i64 0] 57 (0, 0)) ∧ W.heap.size = w.heap.size + 1 ∧ Below w.heap.size w W :=
    ⟨_, rfl, alloc_new _ _, by simp, below_alloc (Below.refl _ _) _⟩
  have hI : IsRd W (fun k => k = w.heap.size ∨ (k < w.heap.size)) w.heap.size l0 a1 0 := by
    refine ⟨A0, c0, .inl rfl, hg, hc0, Kd.C_below HR.out hWb, fun ad ea hn => ?_⟩
    obtain ⟨ad', e, hc⟩ := HR.out.2.2 hn
    rw [ea] at e
    obtain rfl := Option.some.inj e
    obtain ⟨c, hcl, hk, hcell⟩ := hc 0 l0[0] (by simp [hn])
    have hk' : c = [.int .u8 l0[0]] := hk
    subst hk'
    have := World.block_lt_of_cell? _ _ (hcell 0 _ rfl)
    rw [add_block] at this
    exact ⟨.inr this, by omega⟩
  have HI := Aside0.mk hI
  have HW := Aside0.mk hW
  have HWs := Aside0.mk hWs
  have HWb := Aside0.mk hWb
  clear hW hWs hWb hg hI
  go_enter Try.func10, Try.ntmps10
  go_wp2_with fail
  rw [HW.out]
  refine (triesdU (numV_stays (valOf R)) (fun b w v h => ⟨_, h⟩) (f := 33) (first := #[.pointer (some ⟨w.heap.size, 0, none⟩)]) (cap := #[]) (args := #[.pointer (some ⟨w.heap.size, 0, none⟩)]) rfl (fun w => by kernel_rfl) (posOf R) (posOf_nz (fun x hx => numL_nz l0 _ _ _ _ x (HRR.out.trans hx))) HI.out (by intro k hk; rw [HWs.out]; omega)
    (fun _ w1 hb1 => (num_as HRR.out (HI.out.mu (Mu.of_below hb1 (fun _ => False)) (fun _ _ h => h)) b1 b2).mono (fun en w' h => rd_of_num h))).mono ?_
  rintro en w2 ⟨hm, hcase⟩
  have hb2 : Below w.heap.size w w2 := Mu.below_of HWb.out hm (by intro k hk; omega)
  have HB2 := Aside0.mk hb2
  clear hb2 hm
  cases R with
  | ok np =>
    obtain ⟨n, p⟩ := np
    obtain ⟨rfl, rfl, rfl⟩ : r1 = n ∧ r2 = p ∧ r3 = 0 := by simpa [numOut] using HVV.out
    rcases hcase with ⟨h, _⟩ | ⟨_, p', hp', ⟨v, rfl, hres⟩, hI2, _⟩ | ⟨_, x, hx, _⟩
    · exact absurd rfl h
    · obtain rfl : r2 = p' := by simpa [posOf] using hp'
      obtain rfl : v = .int .u64 r1 := hres
      obtain ⟨v2, hb⟩ := hI2.blk
      have d2 := blk_cell hb 2
      have d1 := blk_cell hb 1
      clear hI2 hb hp'
      go_wp2_with fail
      go_quiet (fail)
      go_wp2_with fail
      go_ret3
      exact ⟨rfl, pw_below_drewN HB2.out _⟩
    · cases hx
  | error x =>
    obtain ⟨rfl, rfl, rfl⟩ : r1 = 0 ∧ r2 = 0 ∧ r3 = x := by simpa [numOut] using HVV.out
    have hx0 : (r3 != 0) = true := numL_nz l0 _ _ _ _ _ HRR.out
    rcases hcase with ⟨h, _⟩ | ⟨_, p', hp', _⟩ | ⟨_, y, hy, rfl, hI2⟩
    · exact absurd rfl h
    · cases hp'
    · obtain rfl : r3 = y := by simpa [posOf] using hy
      obtain ⟨v2, hb⟩ := hI2.blk
      have d2 := blk_cell hb 2
      clear hI2 hb hy
      go_wp2_with fail
      go_quiet (fail)
      go_wp2_with fail
      go_ret3
      exact ⟨rfl, pw_below_drewN HB2.out _⟩
theorem two_new (w : World) (o0 o1 : Obj) : ∃ W, (w.alloc o0).alloc o1 = W ∧ W.heap[w.heap.size]? = some o0 ∧ W.heap[w.heap.size + 1]? = some o1 ∧ W.heap.size = w.heap.size + 2 ∧ Below w.heap.size w W := by
  have s1 : (w.alloc o0).heap.size = w.heap.size + 1 := by simp
  refine ⟨_, rfl, alloc_old (alloc_new _ _), ?_, by simp, below_alloc (below_alloc (Below.refl _ _) _) _⟩
  have := alloc_new (w.alloc o0) o1
  rw [s1] at this
  exact this
/-- What a reading of a number up to a bound tells, and leaves: the number, the place, the failure. -/
def rdNum (l : List Int) (at_ e most : Int) : Int × Int × Int := if e ≠ 0 then (0, at_, e) else match upL l at_ most with
  | .ok (n, p) => (n, p, 0)
  | .error x => (0, at_, x)
/-- What a method of a Reader tells, and leaves. -/
def RdOut (enc : Int → Value) (F : Nat → Prop) (g : Nat) (l : List Int) (w : World) (r : Int × Int × Int) (en : Ending) (w' : World) : Prop :=
  en = .returned (enc r.1) ∧ IsRd w' F g l r.2.1 r.2.2 ∧ 0 ≤ r.2.1 ∧ r.2.1 ≤ l.length ∧ Mu (· = g) w w'
set_option maxHeartbeats 1000000 in
theorem num1_any {w : World} {F : Nat → Prop} {g pr pm : Nat} {l : List Int} {at_ e most : Int} (hI : IsRd w F g l at_ e) (h0 : 0 ≤ at_) (h1 : at_ ≤ l.length)
    (hr : w.heap[pr]? = some (.cells #[.pointer (some ⟨g, 0, none⟩)] 38 (0, 0))) (hm : w.heap[pm]? = some (.cells #[.int .u64 most] 22 (0, 0))) :
    Calls Try.prog 35 #[.pointer (some ⟨pr, 0, none⟩), .pointer (some ⟨pm, 0, none⟩)] w (NumPost F g l e w (Value.int .u64) (upL l at_ most)) := by
  have cr := blk_cell hr 0
  have cm := blk_cell hm 0
  have HU := Aside0.mk (upTo_any (most := most) hI h0 h1)
  clear hI hr hm
  obtain ⟨R, hR⟩ : ∃ R, upL l at_ most = R := ⟨_, rfl⟩
  rw [hR] at HU ⊢
  clear hR
  go_enter Try.func35, Try.ntmps35
  go_wp2_with fail
  refine HU.out.mono ?_
  clear HU
  cases R with
  | error x =>
    rintro en w1 ⟨rfl, h⟩
    exact ⟨rfl, rfl, h⟩
  | ok np =>
    rintro en w1 ⟨rfl, h⟩
    have H := Aside0.mk h
    clear h
    go_wp2_with fail
    go_ret
    exact ⟨rfl, H.out⟩
set_option maxHeartbeats 1000000 in
theorem Num_any {w : World} {F : Nat → Prop} {g : Nat} {l : List Int} {at_ e most : Int} (hI : IsRd w F g l at_ e) (hF : ∀ k, F k → k < w.heap.size) (h0 : 0 ≤ at_) (h1 : at_ ≤ l.length) :
    Calls Try.prog 21 #[.pointer (some ⟨g, 0, none⟩), .int .u64 most] w (RdOut (Value.int .u64) F g l w (rdNum l at_ e most)) := by
  have HI := Aside0.mk hI
  have HF := Aside0.mk hF
  clear hI hF
  obtain ⟨W, hW, b0, b1, hWs, hWb⟩ := two_new w (.cells #[.pointer (some ⟨g, 0, none⟩)] 38) (.cells #[.int .u64 most] 22)
  have HW := Aside0.mk hW
  have B0 := Aside0.mk b0
  have B1 := Aside0.mk b1
  have HWs := Aside0.mk hWs
  have HWb := Aside0.mk hWb
  have hmf : ∀ (fn : Fn) (first cap : Array Value) (w : World), (Instr.makeFunc fn first cap).run Try.prog w = .ok (.func fn first cap) w := fun _ _ _ _ => rfl
  clear hW b0 b1 hWs hWb
  go_enter Try.func21, Try.ntmps21
  go_wp2_with fail
  rw [HW.out]
  have hIW : IsRd W F g l at_ e := HI.out.mu (Mu.of_below HWb.out (fun _ => False)) (fun _ _ h => h)
  refine (triesdU (numV_stays (valOf (upL l at_ most))) (fun b w v h => ⟨_, h⟩) (f := 35) (first := #[]) (cap := #[.pointer (some ⟨w.heap.size, 0, none⟩), .pointer (some ⟨w.heap.size + 1, 0, none⟩)]) (args := #[.pointer (some ⟨w.heap.size, 0, none⟩), .pointer (some ⟨w.heap.size + 1, 0, none⟩)]) rfl (fun w => by kernel_rfl) (posOf (upL l at_ most)) (posOf_nz (fun x hx => upL_nz l _ _ x hx)) hIW (fun k hk => by rw [HWs.out]; have := HF.out k hk; omega)
    (fun he w1 hb1 => by
      subst he
      have hm1 := Mu.of_below hb1 (fun _ => False)
      exact (num1_any (hIW.mu hm1 (fun _ _ h => h)) h0 h1 (hm1.heap B0.out (fun h => h)) (hm1.heap B1.out (fun h => h))).mono (fun en w' h => rd_of_num h))).mono ?_
  rintro en w2 ⟨hm, hcase⟩
  have hm2 : Mu (· = g) w w2 := (Mu.of_below HWb.out _).trans hm
  have fin : ∃ v, en = .returned (.int .u64 v) ∧ RdOut (Value.int .u64) F g l w (rdNum l at_ e most) (.returned (.int .u64 v)) w2 := by
    rcases hcase with ⟨h, rfl, hI2⟩ | ⟨rfl, p', hp', ⟨v, rfl, hres⟩, hI2, q0, q1⟩ | ⟨rfl, x, hx, rfl, hI2⟩
    · refine ⟨0, rfl, ?_⟩
      unfold rdNum
      rw [if_pos h]
      exact ⟨rfl, hI2, h0, h1, hm2⟩
    · cases hu : upL l at_ most with
      | error x => rw [hu] at hp'; cases hp'
      | ok np =>
        obtain ⟨n, p⟩ := np
        rw [hu] at hp' hres
        obtain rfl : p = p' := by simpa [posOf] using hp'
        obtain rfl : v = .int .u64 n := hres
        refine ⟨n, rfl, ?_⟩
        unfold rdNum
        rw [if_neg (by simp), hu]
        exact ⟨rfl, hI2, q0, q1, hm2⟩
    · cases hu : upL l at_ most with
      | ok np => rw [hu] at hx; cases hx
      | error y =>
        rw [hu] at hx
        obtain rfl : y = x := by simpa [posOf] using hx
        refine ⟨0, rfl, ?_⟩
        unfold rdNum
        rw [if_neg (by simp), hu]
        exact ⟨rfl, hI2, h0, h1, hm2⟩
  obtain ⟨v, rfl, hfin⟩ := fin
  have HFin := Aside0.mk hfin
  clear hfin hcase hm hm2 hIW
  go_wp2_with fail
  go_ret
  exact HFin.out
end Go.Proofs.Ytabljieejnhefaa.Hand
