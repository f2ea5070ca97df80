/-
  ClockTurns where New refuses, and whole.
-/
import Derived.Test.YtcfndcjbgalnpaaPureC5
namespace Go.Proofs.Ytcfndcjbgalnpaa.Hand
open Go.RowKit Go.Proofs.YtcfndcjbgalnpaaW.PrintWords Go.Proofs.YtcfndcjbgalnpaaW.PrintLast Go.Proofs.YtcfndcjbgalnpaaW.PrintMore Go.Proofs.Ytcfndcjbgalnpaa.PA Go.Proofs.Ytcfndcjbgalnpaa.PB Go.Proofs.Ytcfndcjbgalnpaa.PC Go.Proofs.Ytcfndcjbgalnpaa.PL Go.Proofs.Ytcfndcjbgalnpaa.PU

set_option maxRecDepth 100000 in
set_option maxHeartbeats 8000000 in
theorem turns_no {w : World} (a0 a1 a2 n d n2 d2 : Int) (hN : NewNil a0 a1 n d) :
    Calls Try.prog 5 #[.int .u64 a0, .int .u64 a1, .int .u64 a2, .agg #[.int .u64 n, .int .u64 d], .agg #[.int .u64 n2, .int .u64 d2]] w fun e w' => e = .returned (.bool true) ∧ Below w.heap.size w w' := by
  obtain ⟨W, hW, b0, b1, hWb⟩ := two_new w (.cells #[.int .u64 n, .int .u64 d] 24) (.cells #[.int .u64 n2, .int .u64 d2] 24)
  have HW := Aside0.mk hW
  have HWb := Aside0.mk hWb
  have B0 := Aside0.mk b0
  have HN := Aside0.mk hN
  have HF := Aside0.mk (fun w => tiklaw22_first.calls true w first_true)
  clear hW hWb b0 b1 hN
  go_enter Try.func5, Try.ntmps5
  go_wp2_with fail
  rw [HW.out]
  refine (HF.out _).mono ?_
  rintro en w1 ⟨rfl, hb1⟩
  have b0 := blk_old B0.out hb1
  have B0' := Aside0.mk b0
  have c0 := (blk_cell b0 0).trans (show _ = some (Value.int .u64 n) from rfl)
  have c1 := (blk_cell b0 1).trans (show _ = some (Value.int .u64 d) from rfl)
  have HB1 := Aside0.mk (Below.trans HWb.out (below_mono HWb.out hb1))
  clear b0 hb1
  go_wp2_with fail
  refine (HN.out _).mono ?_
  rintro en w2 ⟨rfl, hb2⟩
  have b0 := blk_old B0'.out hb2
  clear c0 c1
  have c0 := (blk_cell b0 0).trans (show _ = some (Value.int .u64 n) from rfl)
  have c1 := (blk_cell b0 1).trans (show _ = some (Value.int .u64 d) from rfl)
  have HB2 := Aside0.mk (below_step HB1.out hb2)
  clear b0 hb2
  go_wp2_with fail
  refine (HN.out _).mono ?_
  rintro en w3 ⟨rfl, hb3⟩
  have HB3 := Aside0.mk (below_step HB2.out hb3)
  clear hb3
  go_wp2_with fail
  refine (HF.out _).mono ?_
  rintro en w4 ⟨rfl, hb4⟩
  go_wp2
  go_ret
  exact ⟨rfl, below_step HB3.out hb4⟩

theorem turns_all (a0 a1 a2 n d n2 d2 : Int) (w : World) (h0 : U64 a0) (h1 : U64 a1) (h2 : U64 a2) (hn : U64 n) (hd : U64 d) (hn2 : U64 n2) (hd2 : U64 d2) :
    Calls Try.prog 5 #[.int .u64 a0, .int .u64 a1, .int .u64 a2, .agg #[.int .u64 n, .int .u64 d], .agg #[.int .u64 n2, .int .u64 d2]] w fun e w' => e = .returned (.bool true) ∧ Below w.heap.size w w' := by
  rcases new_any a0 a1 n d (may_some n d) with h | h
  · obtain ⟨m, b0, b1⟩ := new_open h
    exact tiklaw22_ClockTurns.calls 1000 a0 a1 a2 n d n2 d2 true w ⟨rfl⟩ (turns_any m hn hd hn2 hd2 h0.1 b0 h1.1 b1 h2.1)
  · exact turns_no a0 a1 a2 n d n2 d2 h
end Go.Proofs.Ytcfndcjbgalnpaa.Hand
