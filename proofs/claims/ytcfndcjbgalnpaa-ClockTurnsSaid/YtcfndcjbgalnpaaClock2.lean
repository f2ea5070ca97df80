/-
  ClockSteps, ClockSpeeds where New refuses: by hand.
-/
import Derived.Test.YtcfndcjbgalnpaaClock1
import Derived.Test.YtcfndcjbgalnpaaPLx1
namespace Go.Proofs.Ytcfndcjbgalnpaa.Hand
open Go.RowKit Go.Proofs.YtcfndcjbgalnpaaW.PrintWords Go.Proofs.YtcfndcjbgalnpaaW.PrintLast Go.Proofs.YtcfndcjbgalnpaaW.PrintMore Go.Proofs.Ytcfndcjbgalnpaa.PA Go.Proofs.Ytcfndcjbgalnpaa.PB Go.Proofs.Ytcfndcjbgalnpaa.PC Go.Proofs.Ytcfndcjbgalnpaa.PL

theorem first_true : tiklaw22_first.f = some true := by decide +kernel
theorem new_any (a0 a1 n d : Int) (h : rate_May.f n d ≠ none) : clock_New.f a0 a1 n d ≠ none ∨ ∀ w, Calls Try.prog 8 #[.int .u64 a0, .int .u64 a1, .agg #[.int .u64 n, .int .u64 d]] w fun e w' => e = .returned (.tuple #[.pointer none, .int .i64 1]) ∧ Below w.heap.size w w' := by
  cases hM : rate_May.f n d with
  | none => exact absurd hM h
  | some b =>
    by_cases hc : b = true ∧ a0 ≤ 4611686018427387904 ∧ a1 ≤ 4611686018427387904
    · left
      unfold clock_New.f
      rw [hM, if_pos ⟨by rw [hc.1], hc.2⟩]
      simp
    · right
      intro w
      refine new_no a0 a1 n d b _ _ hM rfl rfl ?_
      cases b
      · exact .inl rfl
      · right
        by_cases h1 : a0 > 4611686018427387904
        · exact .inl (decide_eq_true h1)
        · exact .inr (decide_eq_true (by
            by_cases h2 : a1 > 4611686018427387904
            · exact h2
            · exact absurd ⟨rfl, by omega, by omega⟩ hc))
theorem steps_no {w : World} (a0 a1 n d : Int) (A : Option Addr) (len c : Nat)
    (hN : ∀ w, Calls Try.prog 8 #[.int .u64 a0, .int .u64 a1, .agg #[.int .u64 n, .int .u64 d]] w fun e w' => e = .returned (.tuple #[.pointer none, .int .i64 1]) ∧ Below w.heap.size w w') :
    Calls Try.prog 3 #[.int .u64 a0, .int .u64 a1, .agg #[.int .u64 n, .int .u64 d], .slice A len c] w fun e w' => e = .returned (.bool true) ∧ Below w.heap.size w w' := by
  obtain ⟨W, hW, b0, hWb⟩ := one_new w (.cells #[.int .u64 n, .int .u64 d] 24)
  have HW := Aside0.mk hW
  have HWb := Aside0.mk hWb
  have B0 := Aside0.mk b0
  have HN := Aside0.mk hN
  have HF := Aside0.mk (fun w => tiklaw22_first.calls true w first_true)
  clear hW hWb b0 hN
  go_enter Try.func3, Try.ntmps3
  go_wp2_with fail
  rw [HW.out]
  refine (HF.out _).mono ?_
  rintro en w1 ⟨rfl, hb1⟩
  have b1 := blk_old B0.out hb1
  have B1 := Aside0.mk b1
  have c0 := (blk_cell b1 0).trans (show _ = some (Value.int .u64 n) from rfl)
  have c1 := (blk_cell b1 1).trans (show _ = some (Value.int .u64 d) from rfl)
  have HB1 := Aside0.mk (Below.trans HWb.out (below_mono HWb.out hb1))
  clear b1 hb1
  go_wp2_with fail
  refine (HN.out _).mono ?_
  rintro en w2 ⟨rfl, hb2⟩
  have b2 := blk_old B1.out hb2
  clear c0 c1
  have c0 := (blk_cell b2 0).trans (show _ = some (Value.int .u64 n) from rfl)
  have c1 := (blk_cell b2 1).trans (show _ = some (Value.int .u64 d) from rfl)
  have HB2 := Aside0.mk (below_step HB1.out hb2)
  clear b2 hb2
  go_wp2_with fail
  refine (HN.out _).mono ?_
  rintro en w3 ⟨rfl, hb3⟩
  have HB3 := Aside0.mk (below_step HB2.out hb3)
  clear hb3
  go_wp2_with fail
  refine (HF.out _).mono ?_
  rintro en w4 ⟨rfl, hb4⟩
  go_wp2
  go_ret
  exact ⟨rfl, below_step HB3.out hb4⟩
end Go.Proofs.Ytcfndcjbgalnpaa.Hand
