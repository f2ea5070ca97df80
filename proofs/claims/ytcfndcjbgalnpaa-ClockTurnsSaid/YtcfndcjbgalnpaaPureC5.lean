/-
  ClockTurns: the plain law, whole. No program.
-/
import Derived.Test.YtcfndcjbgalnpaaPureC4
import Derived.Test.YtcfndcjbgalnpaaClock4
namespace Go.Proofs.Ytcfndcjbgalnpaa.Hand
open Go.RowKit Go.Proofs.YtcfndcjbgalnpaaW.PrintWords Go.Proofs.YtcfndcjbgalnpaaW.PrintLast Go.Proofs.YtcfndcjbgalnpaaW.PrintMore Go.Proofs.Ytcfndcjbgalnpaa.PA Go.Proofs.Ytcfndcjbgalnpaa.PB Go.Proofs.Ytcfndcjbgalnpaa.PC Go.Proofs.Ytcfndcjbgalnpaa.PL Go.Proofs.Ytcfndcjbgalnpaa.PU

theorem turns_jt (K : Nat) (x0 x2 y1 y2 y3 y4 c0 c1 c2 c3 c4 d0 d1 d2 d3 d4 : Int) : tiklaw22_ClockTurns.j0 (K + 1) x0 x2 true y1 y2 y3 y4 c0 c1 c2 c3 c4 d0 d1 d2 d3 d4 = some true := by
  rw [tiklaw22_ClockTurns.j0, first_true]; rfl
theorem turns_any {now p more n d n2 d2 : Int} (m : rate_May.f n d = some true) (hn : U64 n) (hd : U64 d) (hn2 : U64 n2) (hd2 : U64 d2) (h0 : 0 ≤ now) (b0 : now ≤ 4611686018427387904) (p0 : 0 ≤ p) (b1 : p ≤ 4611686018427387904) (m0 : 0 ≤ more) :
    tiklaw22_ClockTurns.f 1000 now p more n d n2 d2 = some true := by
  have e1 : clock_New.f now p n d = some (now, p, 0, n, d, 0) := if_pos ⟨m, b0, b1⟩
  generalize hk : (999 : Nat) + 1 = k
  have hk' : k = 1000 := by omega
  rw [← hk']
  unfold tiklaw22_ClockTurns.f
  have jt : ∀ x0 x2 y1 y2 y3 y4 c0 c1 c2 c3 c4 d0 d1 d2 d3 d4, tiklaw22_ClockTurns.j0 k x0 x2 true y1 y2 y3 y4 c0 c1 c2 c3 c4 d0 d1 d2 d3 d4 = some true := by
    intro x0 x2 y1 y2 y3 y4 c0 c1 c2 c3 c4 d0 d1 d2 d3 d4
    rw [← hk]
    exact turns_jt 999 x0 x2 y1 y2 y3 y4 c0 c1 c2 c3 c4 d0 d1 d2 d3 d4
  have jf : ¬ more > 1099511627776 → ¬ now > 1152921504606846976 → ¬ p > 1152921504606846976 → rate_May.f n2 d2 = some true → tiklaw22_ClockTurns.j0 k now more false n d n2 d2 now p 0 n d now p 0 n d = some true := by
    intro q1 q2 q3 hM
    have := turns_j0 995 (sp_of m hn.1 hd.1) (sp_of hM hn2.1 hd2.1) h0 (show now ≤ 1152921504606846976 by omega) p0 (show p ≤ 1152921504606846976 by omega) m0 (show more ≤ 1099511627776 by omega)
    rw [show 995 + 1 + 1 + 1 + 1 + 1 = k by omega] at this
    exact this
  clear hk hk'
  rw [first_true, Option.bind_some, e1, if_pos rfl, Option.bind_some, Option.bind_some, if_neg (show ¬ (false = true) by decide)]
  show (if (0 : Int) = 0 then if (0 : Int) = 0 then _ else _ else _) = _
  rw [if_pos rfl, if_pos rfl]
  cases hM : rate_May.f n2 d2 with
  | none => exact absurd hM (may_some n2 d2)
  | some b =>
    rw [Option.bind_some]
    cases b with
    | false => rw [if_neg (show ¬ (false = true) by decide)]; exact jt _ _ _ _ _ _ _ _ _ _ _ _ _ _ _ _
    | true =>
      rw [if_pos rfl]
      by_cases q1 : more > 1099511627776
      · rw [if_pos q1]; exact jt _ _ _ _ _ _ _ _ _ _ _ _ _ _ _ _
      · rw [if_neg q1]
        by_cases q2 : now > 1152921504606846976
        · rw [if_pos q2]; exact jt _ _ _ _ _ _ _ _ _ _ _ _ _ _ _ _
        · rw [if_neg q2]
          by_cases q3 : p > 1152921504606846976
          · rw [decide_eq_true q3]; exact jt _ _ _ _ _ _ _ _ _ _ _ _ _ _ _ _
          · rw [decide_eq_false q3]; exact jf q1 q2 q3 hM
end Go.Proofs.Ytcfndcjbgalnpaa.Hand
