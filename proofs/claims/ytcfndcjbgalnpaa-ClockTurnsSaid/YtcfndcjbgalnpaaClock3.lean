/-
  ClockSteps, whole.
-/
import Derived.Test.YtcfndcjbgalnpaaPureC1
namespace Go.Proofs.Ytcfndcjbgalnpaa.Hand
open Go.RowKit Go.Proofs.YtcfndcjbgalnpaaW.PrintWords Go.Proofs.YtcfndcjbgalnpaaW.PrintLast Go.Proofs.YtcfndcjbgalnpaaW.PrintMore Go.Proofs.Ytcfndcjbgalnpaa.PA Go.Proofs.Ytcfndcjbgalnpaa.PB Go.Proofs.Ytcfndcjbgalnpaa.PC Go.Proofs.Ytcfndcjbgalnpaa.PL

theorem may_some (n d : Int) : rate_May.f n d ≠ none := by
  unfold rate_May.f
  obtain ⟨c, hc⟩ : ∃ c, bits_OnesCount64.f d = some c := ⟨_, rfl⟩
  rw [hc, Option.bind_some]
  repeat' split
  all_goals simp
theorem new_open {a0 a1 n d : Int} (h : clock_New.f a0 a1 n d ≠ none) : rate_May.f n d = some true ∧ a0 ≤ 4611686018427387904 ∧ a1 ≤ 4611686018427387904 := by
  unfold clock_New.f at h
  split at h
  case isTrue h2 => exact h2
  case isFalse => exact absurd rfl h
theorem steps_all (a0 a1 n d : Int) (A : Option Addr) (c : Nat) (l : List Int) (w : World) (hr : Kd.C (Kd.int .u64) w A l.length l) (hc : l.length ≤ c) (h0 : U64 a0) (h1 : U64 a1) (hn : U64 n) (hd : U64 d) (hw : W64 l) :
    Calls Try.prog 3 #[.int .u64 a0, .int .u64 a1, .agg #[.int .u64 n, .int .u64 d], .slice A l.length c] w fun e w' => e = .returned (.bool true) ∧ Below w.heap.size w w' := by
  rcases new_any a0 a1 n d (may_some n d) with h | h
  · obtain ⟨m, b0, b1⟩ := new_open h
    exact tiklaw22_ClockSteps.calls 1000 a0 a1 n d A c l true w hr hc ⟨rfl⟩ (steps_any a0 a1 n d l (sp_of m hn.1 hd.1) h0.1 b0 h1.1 b1 hw)
  · exact steps_no a0 a1 n d A l.length c h
end Go.Proofs.Ytcfndcjbgalnpaa.Hand
