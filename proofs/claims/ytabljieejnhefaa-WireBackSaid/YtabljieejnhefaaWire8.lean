/-
  Bytes and texts read by a Reader: the methods; a new one; its end.
-/
import Derived.Test.YtabljieejnhefaaWire7
import Derived.OpenShut
namespace Go.Proofs.Ytabljieejnhefaa.Hand
open Go.RowKit Go.Proofs.YtabljieejnhefaaW.PrintWords Go.Proofs.YtabljieejnhefaaW.PrintLast

theorem upL_range (l : List Int) (p m : Int) {n q : Int} (h : upL l p m = .ok (n, q)) (hm : m ≤ 18446744073709551615) : n ≤ m := by
  unfold upL at h
  split at h
  · split at h
    · cases h
    · injection h with h; injection h with h1 h2; omega
  · cases h
theorem rawL_nz {l : List Int} {p n x : Int} (h : rawL l p n = .error x) : (x != 0) = true := by
  unfold rawL at h
  split at h
  · injection h with h; subst h; rfl
  · cases h
theorem textL_nz {l : List Int} {p m x : Int} (h : textL l p m = .error x) : (x != 0) = true := by
  unfold textL at h
  split at h
  · split at h
    · cases h
    · next e => injection h with h; subst h; exact rawL_nz e
  · next e => injection h with h; subst h; exact upL_nz _ _ _ _ e
/-- The text between: of a text read. -/
def textOf (l : List Int) (at_ most : Int) : ByteArray :=
  match upL l at_ (if most < 0 then 0 else most) with
  | .ok (n, p) => strOfNums ((l.drop p.toNat).take n.toNat)
  | .error _ => ⟨#[]⟩
def rdText (l : List Int) (at_ e most : Int) : ByteArray × Int × Int := if e ≠ 0 then (⟨#[]⟩, at_, e) else match textL l at_ most with
  | .ok (_, q) => (textOf l at_ most, q, 0)
  | .error x => (⟨#[]⟩, at_, x)
def RdStr (F : Nat → Prop) (g : Nat) (l : List Int) (w : World) (r : ByteArray × Int × Int) (en : Ending) (w' : World) : Prop :=
  en = .returned (.string r.1) ∧ IsRd w' F g l r.2.1 r.2.2 ∧ 0 ≤ r.2.1 ∧ r.2.1 ≤ l.length ∧ Mu (· = g) w w'
theorem bits_or_nn (x y : Int) : 0 ≤ Go.bits .or .u64 x y := (bounds_u64 (wf_bits .or .u64 x y)).1
/-- A number is none below nought. -/
theorem numL_nn (l : List Int) : ∀ (k i : Nat) (n p : Int) (m q : Int), 0 ≤ n → numL l k i n p = .ok (m, q) → 0 ≤ m
  | 0, i, n, p, m, q, hn, h => by simp only [numL] at h; cases h
  | k + 1, i, n, p, m, q, hn, h => by
    have hv : 0 ≤ vstep n (rd l p) i := by
      unfold vstep
      exact bits_or_nn _ _
    simp only [numL] at h
    split at h
    · cases h
    · split at h
      · cases h
      · split at h
        · injection h with h; injection h with h1 h2; subst h1; exact hv
        · exact numL_nn l k _ _ _ m q hv h
theorem upL_nn (l : List Int) (p m : Int) {n q : Int} (h : upL l p m = .ok (n, q)) : 0 ≤ n := by
  unfold upL at h
  split at h
  · next e =>
    split at h
    · cases h
    · injection h with h; injection h with h1 h2; subst h1; exact numL_nn l _ _ _ _ _ _ (by omega) e
  · cases h
set_option maxHeartbeats 1000000 in
theorem text1_any {w : World} {F : Nat → Prop} {g pr pm : Nat} {l : List Int} {at_ e most : Int} (hI : IsRd w F g l at_ e) (h0 : 0 ≤ at_) (h1 : at_ ≤ l.length) (hl : l.length < 140737488355328) (hF : ∀ k, F k → k < w.heap.size)
    (hr : w.heap[pr]? = some (.cells #[.pointer (some ⟨g, 0, none⟩)] 38 (0, 0))) (hm : w.heap[pm]? = some (.cells #[.int .i64 most] 3 (0, 0))) (nr : pr ≠ g) (nm : pm ≠ g)
    (hb : most ≤ 9223372036854775807) :
    Calls Try.prog 41 #[.pointer (some ⟨pr, 0, none⟩), .pointer (some ⟨pm, 0, none⟩)] w (RdPost (StrV (textOf l at_ most)) w.heap.size F g l e w (posOf (textL l at_ most))) := by
  have hwm : IntKind.u64.wrap (if most < 0 then 0 else most) = (if most < 0 then 0 else most) := IntWalk.u64_in _ (by split <;> omega)
  cases hu : upL l at_ (if most < 0 then 0 else most) with
  | error x =>
    have ht : textL l at_ most = .error x := by unfold textL; rw [hu]
    rw [ht]
    exact text1_up (Res := StrV (textOf l at_ most)) (b := w.heap.size) (n := 0) (p := 0) hI h0 h1 hl hF hr hm nr nm rfl hwm hu
  | ok np =>
    obtain ⟨n, p⟩ := np
    have hn := upL_nn l _ _ hu
    have hto : textOf l at_ most = strOfNums ((l.drop p.toNat).take n.toNat) := by unfold textOf; rw [hu]
    cases hq : rawL l p n with
    | error x =>
      have ht : textL l at_ most = .error x := by unfold textL; rw [hu]; simp only []; rw [hq]
      rw [ht]
      exact text1_raw hI h0 h1 hl hF hr hm nr nm rfl hwm hu hn hq
    | ok q =>
      have ht : textL l at_ most = .ok (n, q) := by unfold textL; rw [hu]; simp only []; rw [hq]
      rw [ht, hto]
      exact text1_ok hI h0 h1 hl hF hr hm nr nm rfl hwm hu hn hq rfl
set_option maxHeartbeats 1000000 in
theorem Text_any {w : World} {F : Nat → Prop} {g : Nat} {l : List Int} {at_ e most : Int} (hI : IsRd w F g l at_ e) (hF : ∀ k, F k → k < w.heap.size) (h0 : 0 ≤ at_) (h1 : at_ ≤ l.length) (hl : l.length < 140737488355328) (hb : most ≤ 9223372036854775807) :
    Calls Try.prog 27 #[.pointer (some ⟨g, 0, none⟩), .int .i64 most] w (RdStr F g l w (rdText l at_ e most)) := by
  have HI := Aside0.mk hI
  have HF := Aside0.mk hF
  have hglt : g < w.heap.size := by obtain ⟨v, hv⟩ := hI.blk; exact heap_lt hv
  clear hI hF
  obtain ⟨W, hW, b0, b1, hWs, hWb⟩ := two_new w (.cells #[.pointer (some ⟨g, 0, none⟩)] 38) (.cells #[.int .i64 most] 3)
  have HW := Aside0.mk hW
  have B0 := Aside0.mk b0
  have B1 := Aside0.mk b1
  have HWs := Aside0.mk hWs
  have HWb := Aside0.mk hWb
  have hmf : ∀ (fn : Fn) (first cap : Array Value) (w : World), (Instr.makeFunc fn first cap).run Try.prog w = .ok (.func fn first cap) w := fun _ _ _ _ => rfl
  clear hW b0 b1 hWs hWb
  go_enter Try.func27, Try.ntmps27
  go_wp2_with fail
  rw [HW.out]
  have hIW : IsRd W F g l at_ e := HI.out.mu (Mu.of_below HWb.out (fun _ => False)) (fun _ _ h => h)
  refine (triesdS (strV_stays (textOf l at_ most)) (fun b w v h => ⟨_, h⟩) (f := 41) (first := #[]) (cap := #[.pointer (some ⟨w.heap.size, 0, none⟩), .pointer (some ⟨w.heap.size + 1, 0, none⟩)]) (args := #[.pointer (some ⟨w.heap.size, 0, none⟩), .pointer (some ⟨w.heap.size + 1, 0, none⟩)]) rfl (fun w => by kernel_rfl) (posOf (textL l at_ most)) (posOf_nz (fun x hx => textL_nz hx)) hIW (fun k hk => by rw [HWs.out]; have := HF.out k hk; omega)
    (fun he w1 hb1 => by
      subst he
      have hm1 := Mu.of_below hb1 (fun _ => False)
      exact text1_any (hIW.mu hm1 (fun _ _ h => h)) h0 h1 hl (fun k hk => by have := HF.out k hk; have := hb1.size; have := HWs.out; omega) (hm1.heap B0.out (fun h => h)) (hm1.heap B1.out (fun h => h)) (by omega) (by omega) hb)).mono ?_
  rintro en w2 ⟨hm, hcase⟩
  have hm2 : Mu (· = g) w w2 := (Mu.of_below HWb.out _).trans hm
  have fin : ∃ v, en = .returned (.string v) ∧ RdStr F g l w (rdText l at_ e most) (.returned (.string v)) w2 := by
    rcases hcase with ⟨h, rfl, hI2⟩ | ⟨rfl, p', hp', ⟨v, rfl, hres⟩, hI2, q0, q1⟩ | ⟨rfl, x, hx, rfl, hI2⟩
    · refine ⟨_, rfl, ?_⟩
      unfold rdText
      rw [if_pos h]
      exact ⟨rfl, hI2, h0, h1, hm2⟩
    · cases hu : textL l at_ most with
      | error x => rw [hu] at hp'; cases hp'
      | ok np =>
        obtain ⟨n, p⟩ := np
        rw [hu] at hp'
        obtain rfl : p = p' := by simpa [posOf] using hp'
        obtain rfl : v = .string (textOf l at_ most) := hres
        refine ⟨_, rfl, ?_⟩
        unfold rdText
        rw [if_neg (by simp), hu]
        exact ⟨rfl, hI2, q0, q1, hm2⟩
    · cases hu : textL l at_ most with
      | ok np => rw [hu] at hx; cases hx
      | error y =>
        rw [hu] at hx
        obtain rfl : y = x := by simpa [posOf] using hx
        refine ⟨_, rfl, ?_⟩
        unfold rdText
        rw [if_neg (by simp), hu]
        exact ⟨rfl, hI2, h0, h1, hm2⟩
  obtain ⟨v, rfl, hfin⟩ := fin
  have HFin := Aside0.mk hfin
  clear hfin hcase hm hm2 hIW
  go_wp2_with fail
  go_ret
  exact HFin.out
end Go.Proofs.Ytabljieejnhefaa.Hand
