/-
  Bytes read by a Reader: the method; a new Reader; its end.
-/
import Derived.Test.YtabljieejnhefaaWire6
import Derived.OpenShut
namespace Go.Proofs.Ytabljieejnhefaa.Hand
open Go.RowKit Go.Proofs.YtabljieejnhefaaW.PrintWords Go.Proofs.YtabljieejnhefaaW.PrintLast

def rawM (l : List Int) (at_ n : Int) : Except Int Int := if n < 0 then .error 1 else rawL l at_ n
theorem rawM_nz {l : List Int} {p n x : Int} (h : rawM l p n = .error x) : (x != 0) = true := by
  unfold rawM rawL at h
  split at h
  · injection h with h; subst h; rfl
  · split at h
    · injection h with h; subst h; rfl
    · cases h
set_option maxHeartbeats 1000000 in
theorem raw1_any {w : World} {F : Nat → Prop} {g pr pn : Nat} {l : List Int} {at_ e n : Int} (hI : IsRd w F g l at_ e) (h0 : 0 ≤ at_) (h1 : at_ ≤ l.length) (hl : l.length < 140737488355328) (hF : ∀ k, F k → k < w.heap.size)
    (hr : w.heap[pr]? = some (.cells #[.pointer (some ⟨g, 0, none⟩)] 38 (0, 0))) (hm : w.heap[pn]? = some (.cells #[.int .i64 n] 3 (0, 0))) (hb : n ≤ 9223372036854775807) :
    Calls Try.prog 38 #[.pointer (some ⟨pn, 0, none⟩), .pointer (some ⟨pr, 0, none⟩)] w (RdPost (BytesV ((l.drop at_.toNat).take n.toNat)) w.heap.size F g l e w (rawM l at_ n)) := by
  have cr := blk_cell hr 0
  have cm := blk_cell hm 0
  obtain ⟨l', hl'⟩ : ∃ l', (l.drop at_.toNat).take n.toNat = l' := ⟨_, rfl⟩
  rw [hl']
  by_cases hn : n < 0
  · have hr : rawM l at_ n = .error 1 := if_pos hn
    rw [hr]
    have HI := Aside0.mk hI
    clear hI hr hm hl'
    go_enter Try.func38, Try.ntmps38
    go_wp2_with fail
    exact ⟨rfl, rfl, ⟨_, HI.out⟩, Mu.refl _ _⟩
  · have hr : rawM l at_ n = rawL l at_ n := if_neg hn
    rw [hr]
    have h := raw_any (n := n) hI h0 h1 (by omega) hl hF
    rw [hl'] at h
    have H := Aside0.mk h
    have hwn : IntKind.u64.wrap n = n := IntWalk.u64_in _ (by omega)
    have hn' : 0 ≤ n := by omega
    clear hI hr hm h hl' hn
    obtain ⟨R, hR⟩ : ∃ R, rawL l at_ n = R := ⟨_, rfl⟩
    rw [hR] at H ⊢
    clear hR
    go_enter Try.func38, Try.ntmps38
    go_wp2_with fail
    refine H.out.mono ?_
    clear H
    cases R with
    | error x =>
      rintro en w1 ⟨rfl, h⟩
      exact ⟨rfl, rfl, h⟩
    | ok q =>
      rintro en w1 ⟨⟨v, rfl, hv⟩, h⟩
      obtain ⟨A, c, rfl, _⟩ := Kd.R_reads hv
      have HV := Aside0.mk (And.intro hv h)
      clear hv h
      go_wp2_with fail
      go_ret
      exact ⟨⟨_, rfl, HV.out.1⟩, HV.out.2⟩
/-- Bytes read: what a caller may count on: the bytes, the place, the failure. -/
def rdRaw (l : List Int) (at_ e n : Int) : List Int × Int × Int := if e ≠ 0 then ([], at_, e) else match rawM l at_ n with
  | .ok q => ((l.drop at_.toNat).take n.toNat, q, 0)
  | .error x => ([], at_, x)
def RdBytes (F : Nat → Prop) (g : Nat) (l : List Int) (w : World) (r : List Int × Int × Int) (en : Ending) (w' : World) : Prop :=
  (∃ v, en = .returned v ∧ BytesV r.1 w.heap.size w' v) ∧ IsRd w' F g l r.2.1 r.2.2 ∧ 0 ≤ r.2.1 ∧ r.2.1 ≤ l.length ∧ Mu (· = g) w w'
set_option maxHeartbeats 1000000 in
theorem Raw_any {w : World} {F : Nat → Prop} {g : Nat} {l : List Int} {at_ e n : Int} (hI : IsRd w F g l at_ e) (hF : ∀ k, F k → k < w.heap.size) (h0 : 0 ≤ at_) (h1 : at_ ≤ l.length) (hl : l.length < 140737488355328) (hb : n ≤ 9223372036854775807) :
    Calls Try.prog 25 #[.pointer (some ⟨g, 0, none⟩), .int .i64 n] w (RdBytes F g l w (rdRaw l at_ e n)) := by
  have HI := Aside0.mk hI
  have HF := Aside0.mk hF
  clear hI hF
  obtain ⟨W, hW, b0, b1, hWs, hWb⟩ := two_new w (.cells #[.pointer (some ⟨g, 0, none⟩)] 38) (.cells #[.int .i64 n] 3)
  have HW := Aside0.mk hW
  have B0 := Aside0.mk b0
  have B1 := Aside0.mk b1
  have HWs := Aside0.mk hWs
  have HWb := Aside0.mk hWb
  have hmf : ∀ (fn : Fn) (first cap : Array Value) (w : World), (Instr.makeFunc fn first cap).run Try.prog w = .ok (.func fn first cap) w := fun _ _ _ _ => rfl
  clear hW b0 b1 hWs hWb
  go_enter Try.func25, Try.ntmps25
  go_wp2_with fail
  rw [HW.out]
  have hIW : IsRd W F g l at_ e := HI.out.mu (Mu.of_below HWb.out (fun _ => False)) (fun _ _ h => h)
  refine (triesdB (bytesV_stays ((l.drop at_.toNat).take n.toNat)) (fun b w v h => by obtain ⟨A, c, e, _⟩ := Kd.R_reads h; exact ⟨_, _, _, e⟩) (f := 38) (first := #[]) (cap := #[.pointer (some ⟨w.heap.size + 1, 0, none⟩), .pointer (some ⟨w.heap.size, 0, none⟩)]) (args := #[.pointer (some ⟨w.heap.size + 1, 0, none⟩), .pointer (some ⟨w.heap.size, 0, none⟩)]) rfl (fun w => by kernel_rfl) (rawM l at_ n) (fun x hx => rawM_nz hx) hIW (fun k hk => by rw [HWs.out]; have := HF.out k hk; omega)
    (fun he w1 hb1 => by
      subst he
      have hm1 := Mu.of_below hb1 (fun _ => False)
      exact raw1_any (hIW.mu hm1 (fun _ _ h => h)) h0 h1 hl (fun k hk => by have := HF.out k hk; have := hb1.size; have := HWs.out; omega) (hm1.heap B0.out (fun h => h)) (hm1.heap B1.out (fun h => h)) hb)).mono ?_
  rintro en w2 ⟨hm, hcase⟩
  have hm2 : Mu (· = g) w w2 := (Mu.of_below HWb.out _).trans hm
  have fin : ∃ a n' c, en = .returned (.slice a n' c) ∧ RdBytes F g l w (rdRaw l at_ e n) (.returned (.slice a n' c)) w2 := by
    rcases hcase with ⟨h, rfl, hI2⟩ | ⟨rfl, p', hp', ⟨v, rfl, hres⟩, hI2, q0, q1⟩ | ⟨rfl, x, hx, rfl, hI2⟩
    · refine ⟨_, _, _, rfl, ?_⟩
      unfold rdRaw
      rw [if_pos h]
      exact ⟨⟨_, rfl, Kd.R_nil _ _ _ _ _⟩, hI2, h0, h1, hm2⟩
    · obtain ⟨A, c, rfl, _⟩ := Kd.R_reads hres
      refine ⟨_, _, _, rfl, ?_⟩
      unfold rdRaw
      rw [if_neg (by simp), hp']
      exact ⟨⟨_, rfl, Kd.R_lower hres (by rw [HWs.out]; omega)⟩, hI2, q0, q1, hm2⟩
    · refine ⟨_, _, _, rfl, ?_⟩
      unfold rdRaw
      rw [if_neg (by simp), hx]
      exact ⟨⟨_, rfl, Kd.R_nil _ _ _ _ _⟩, hI2, h0, h1, hm2⟩
  obtain ⟨a', n', c', rfl, hfin⟩ := fin
  have HFin := Aside0.mk hfin
  clear hfin hcase hm hm2 hIW
  go_wp2_with fail
  go_ret
  exact HFin.out
set_option maxHeartbeats 1000000 in
theorem End_any {w : World} {F : Nat → Prop} {g : Nat} {l : List Int} {at_ e : Int} (hI : IsRd w F g l at_ e) (h0 : 0 ≤ at_) (h1 : at_ ≤ l.length) :
    Calls Try.prog 22 #[.pointer (some ⟨g, 0, none⟩)] w fun en w' => en = .returned (.int .i64 (if e = 0 ∧ at_ < l.length then 4 else e)) ∧ ∃ n, w' = w.drewN n := by
  have HI := Aside0.mk hI
  obtain ⟨A, c, i1, i2, i3, i4, i5⟩ := hI
  have c2 := blk_cell i2 2
  clear i1 i2 i4 i5
  by_cases he : e = 0
  · have e1 : (e == 0) = true := beq_iff_eq.2 he
    have H0 := Aside0.mk he
    clear he
    by_cases hlt : at_ < l.length
    · have e2 : decide (0 < (l.length : Int) - at_) = true := decide_eq_true (by omega)
      rw [if_pos ⟨H0.out, hlt⟩]
      go_enter Try.func22, Try.ntmps22
      go_wp2_with (first | (go_at_call 29; refine (left_any HI.out h0 h1).mono ?_; rintro en w' ⟨rfl, n', rfl⟩))
      go_ret
      exact ⟨rfl, _, rfl⟩
    · have e2 : decide (0 < (l.length : Int) - at_) = false := decide_eq_false (by omega)
      rw [if_neg (fun h => hlt h.2)]
      go_enter Try.func22, Try.ntmps22
      go_wp2_with (first | (go_at_call 29; refine (left_any HI.out h0 h1).mono ?_; rintro en w' ⟨rfl, n', rfl⟩))
      go_ret
      exact ⟨rfl, _, rfl⟩
  · have e1 : (e == 0) = false := beq_eq_false_iff_ne.2 he
    rw [if_neg (fun h => he h.1)]
    clear he
    go_enter Try.func22, Try.ntmps22
    go_wp2_with fail
    go_ret
    exact ⟨rfl, 0, rfl⟩
set_option maxHeartbeats 1000000 in
/-- A new Reader: of bytes that are copied. -/
theorem NewReader_any {w : World} {A : Option Addr} {c : Nat} {l : List Int} (hC : Kd.C (Kd.int .u8) w A l.length l) (hc : l.length ≤ c) (hl : l.length < 140737488355328) :
    Calls Try.prog 20 #[.slice A l.length c] w fun en w' => ∃ g, en = .returned (.pointer (some ⟨g, 0, none⟩)) ∧ w.heap.size ≤ g ∧ IsRd w' (fun k => w.heap.size ≤ k ∧ k < w'.heap.size) g l 0 0 ∧ Below w.heap.size w w' := by
  have HC := Aside0.mk (clone_any hC hc hl)
  clear hC
  go_enter Try.func20, Try.ntmps20
  go_wp2_with fail
  refine HC.out.mono ?_
  rintro en w1 ⟨v, rfl, hr, hb⟩
  obtain ⟨A', c', rfl, hc', hC'⟩ := Kd.R_reads hr
  have HR := Aside0.mk hr
  have HB := Aside0.mk hb
  have HC' := Aside0.mk hC'
  clear hr hb hC' HC
  go_wp2_with fail
  go_ret
  have hsz : (w1.alloc (Obj.cells #[.slice A' l.length c', .int .i64 0, .int .i64 0] 57)).heap.size = w1.heap.size + 1 := by simp
  refine ⟨_, rfl, HB.out.size, ⟨A', c', ⟨HB.out.size, by rw [hsz]; omega⟩, alloc_new _ _, hc', Kd.C_alloc HC'.out _, fun ad ea hn => ?_⟩, below_alloc HB.out _⟩
  subst ea
  have hbd := Kd.R_bound HR.out
  have h1 := hbd.1 ad.block (by
    obtain ⟨inner, ho⟩ := Kd.R_own HR.out
    rcases ho.2 with ⟨h, _⟩ | ⟨g, cap, cur, h, hg, hh, r⟩
    · simp at h
    · simp at h
      obtain ⟨rfl, _⟩ := h
      simp [Value.ownBlock])
  exact ⟨⟨h1.2.1, by rw [hsz]; omega⟩, by omega⟩
end Go.Proofs.Ytabljieejnhefaa.Hand
