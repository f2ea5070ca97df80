/- Texts of this claim, put together. -/
import Derived.Test.YtlgfmmkabnbllaaDoorMDPa
import Derived.Test.YtlgfmmkabnbllaaDoorMDPd
set_option linter.unusedVariables false
set_option linter.unusedSimpArgs false
namespace Go.Proofs.YtlgfmmkabnbllaaDoor.Hand
open Go.RowKit Go.Proofs.YtlgfmmkabnbllaaDoorW.PrintWords Go.Proofs.YtlgfmmkabnbllaaDoorW.PrintLast Go.Proofs.YtlgfmmkabnbllaaDoorW.PrintMore Go.Proofs.YtlgfmmkabnbllaaDoor.PD Go.Proofs.YtlgfmmkabnbllaaDoor.PK Go.Proofs.YtlgfmmkabnbllaaDoor.PE
set_option linter.unusedSimpArgs false
set_option linter.unusedVariables false
def tikref22_Deck_Speed.f (k : Nat) (s0 s1 s2 s3 s4 s5 s6 a1 : Int) (a2 : Nat) : Option (Int × RSt) :=
  (tikref1_Of.f k a2).bind fun o =>
    if o.2.2 = 0 then
      if a1 > 4611686018427387904 then some (1, s0, s1, s2, s3, s4, s5, s6)
      else (tikref22_Clock_Turn.f k s2 s3 s4 s5 s6 a1 o.1 o.2.1).bind fun q => some (0, s0, s1, q.2.1, q.2.2.1, q.2.2.2.1, q.2.2.2.2.1, q.2.2.2.2.2)
    else some (o.2.2, s0, s1, s2, s3, s4, s5, s6)
set_option maxHeartbeats 8000000 in
set_option maxRecDepth 100000 in
theorem tikref22_Deck_Speed.calls (k : Nat) (g : Nat) (s0 s1 s2 s3 s4 s5 s6 a1 : Int) (a2 : Nat) (r1 r2 r3 r4 r5 r6 r7 r8 : Int) (w0 w : World) (hI : IsS43 w0 w g s0 s1 s2 s3 s4 s5 s6) (hB : Below w0.heap.size w0 w) (h : tikref22_Deck_Speed.f k s0 s1 s2 s3 s4 s5 s6 a1 a2 = some (r1, r2, r3, r4, r5, r6, r7, r8)) :
    Calls Tryd.prog 49 #[.pointer (some ⟨g, 0, none⟩), .int .u64 a1, .float .f64 a2] w fun e w' => e = .returned (.int .i64 r1) ∧ IsS43 w0 w' g r2 r3 r4 r5 r6 r7 r8 ∧ Below w0.heap.size w0 w' ∧ KeepBut w w' g none := by
  unfold tikref22_Deck_Speed.f at h
  obtain ⟨⟨n, d, e⟩, ho, h'⟩ := Option.bind_eq_some_iff.mp h
  clear h
  have h := h'
  clear h'
  dsimp only at h
  have HI := Aside0.mk hI
  have HB := Aside0.mk hB
  have HO := Aside0.mk ho
  clear hI hB ho
  go_enter Tryd.func49, Tryd.ntmps49
  go_wp2_with fail
  refine (tikref1_Of.calls k a2 n d e _ HO.out).mono ?_
  rintro e1 w1 ⟨rfl, hd⟩
  have hgb : w1.heap.size ≠ g := fun e => absurd ((HI.out.below hd).1) (by rw [← e, Array.getElem?_eq_none (Nat.le_refl _)]; simp)
  have hIa := (HI.out.below hd).alloc (.cells #[.int .u64 n, .int .u64 d] 39 (0, 0))
  have hbox := blk_new w1 (.cells #[.int .u64 n, .int .u64 d] 39 (0, 0))
  have hBa := below_alloc (below_step HB.out hd) (.cells #[.int .u64 n, .int .u64 d] 39 (0, 0))
  have hKa := keep_alloc (KeepBut.of_below hd g none) (.cells #[.int .u64 n, .int .u64 d] 39 (0, 0))
  have HIA := Aside0.mk hIa
  have HBA := Aside0.mk hBa
  have KA := Aside0.mk hKa
  have HBX := Aside0.mk hbox
  clear hIa hBa hKa hbox hd
  by_cases h0 : e = 0
  · rw [if_pos h0] at h
    have e0 : (e != 0) = false := by simp [h0]
    by_cases h1 : a1 > 4611686018427387904
    · rw [if_pos h1] at h
      have e1 : decide (4611686018427387904 < a1) = true := decide_eq_true h1
      obtain ⟨rfl, rfl, rfl, rfl, rfl, rfl, rfl, rfl⟩ : 1 = r1 ∧ s0 = r2 ∧ s1 = r3 ∧ s2 = r4 ∧ s3 = r5 ∧ s4 = r6 ∧ s5 = r7 ∧ s6 = r8 := by simpa using Option.some.inj h
      clear h h0 h1
      go_wp2_with fail
      go_ret
      exact ⟨rfl, HIA.out, HBA.out, KA.out⟩
    · rw [if_neg h1] at h
      have e1 : decide (4611686018427387904 < a1) = false := decide_eq_false h1
      obtain ⟨⟨q1, q2, q3, q4, q5, q6⟩, hq, h'⟩ := Option.bind_eq_some_iff.mp h
      obtain ⟨rfl, rfl, rfl, rfl, rfl, rfl, rfl, rfl⟩ : 0 = r1 ∧ s0 = r2 ∧ s1 = r3 ∧ q2 = r4 ∧ q3 = r5 ∧ q4 = r6 ∧ q5 = r7 ∧ q6 = r8 := by simpa using Option.some.inj h'
      have HQ := Aside0.mk hq
      clear h h' hq h0 h1
      have b0 : (w1.alloc (.cells #[.int .u64 n, .int .u64 d] 39 (0, 0))).cell? ⟨w1.heap.size, 0, none⟩ = some (.int .u64 n) := (blk_cell HBX.out 0).trans rfl
      have b1 : (w1.alloc (.cells #[.int .u64 n, .int .u64 d] 39 (0, 0))).cell? ⟨w1.heap.size, 1, none⟩ = some (.int .u64 d) := (blk_cell HBX.out 1).trans rfl
      go_wp2_with fail
      generalize w1.alloc (.cells #[.int .u64 n, .int .u64 d] 39 (0, 0)) = w3 at *
      go_still_tail 5, (by kernel_rfl)
      change wpList _ _ _ _ _ w3.drew
      go_wp2_with fail
      refine (tikref22_Clock_Turn.calls k g s0 s1 s2 s3 s4 s5 s6 a1 n d q1 q2 q3 q4 q5 q6 w0 _ HIA.out.drew (below_drew1 HBA.out) HQ.out).mono ?_
      rintro e4 w4 ⟨rfl, hI4, hB4, hK4⟩
      have HI4 := Aside0.mk hI4
      have HB4 := Aside0.mk hB4
      have HK4 := Aside0.mk (KeepBut.trans (keep_drew KA.out) hK4 (.inl rfl))
      clear hI4 hB4 hK4 b0 b1
      go_wp2_with fail
      go_ret
      exact ⟨rfl, HI4.out, HB4.out, HK4.out⟩
  · rw [if_neg h0] at h
    have e0 : (e != 0) = true := by simp [h0]
    obtain ⟨rfl, rfl, rfl, rfl, rfl, rfl, rfl, rfl⟩ : e = r1 ∧ s0 = r2 ∧ s1 = r3 ∧ s2 = r4 ∧ s3 = r5 ∧ s4 = r6 ∧ s5 = r7 ∧ s6 = r8 := by simpa using Option.some.inj h
    clear h h0
    go_wp2_with fail
    go_ret
    exact ⟨rfl, HIA.out, HBA.out, KA.out⟩
end Go.Proofs.YtlgfmmkabnbllaaDoor.Hand
