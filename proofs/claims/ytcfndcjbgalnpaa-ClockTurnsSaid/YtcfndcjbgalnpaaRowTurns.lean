/- ClockTurns: turned to its own speed nothing changes; at speed 0 it stands; at 1 it goes with the wall; turned there and back at one time it stands where it was: the call returns true and leaves its arguments as they were. No condition. -/
import Derived.Test.YtcfndcjbgalnpaaRows
import Derived.Test.YtcfndcjbgalnpaaOpens
import Derived.Test.YtcfndcjbgalnpaaClock5
import Derived.WalkKit
import Derived.ProofKit
import Derived.OpenShut
import Derived.ShutString
import Derived.ChangeOld
import Derived.Below
import Derived.SizedLaws
namespace Go.Proofs.Ytcfndcjbgalnpaa.RowClockTurns
open Go.ChangeShapes Go.WideShapes Go.ChangeAt Go.RowKit
open Go.ChangeMaps (open_string shut_string)
open Go.Proofs.YtcfndcjbgalnpaaW.PrintWords Go.Proofs.Ytcfndcjbgalnpaa.Opens
open Go.Proofs.Ytcfndcjbgalnpaa.Hand
set_option linter.unusedVariables false
set_option linter.unusedSimpArgs false
theorem ownK : ownKnob Try.prog.godebug = none := by kernel_rfl
theorem laidOut : laidOutB Try.prog = true := by kernel_rfl
set_option maxRecDepth 100000 in
theorem lifted (os : Os) (started : os.Started) (H : Type) (enc : TypeId × Value → H) :
    ReturnsInHanded {} Try.checked os 5 .any (Rows.clockTurnsSpec.pre6 enc Try.prog Try.f5 Rows.clockTurnsRow.domain false) (Rows.clockTurnsSpec.post enc Try.prog Try.f5 false true false false) := by
  refine returnsInHanded_of_change_sized (C := Try.checked) ownK started (by kernel_rfl) Try.func5
    (ChangeSpec.witness6 (enc := enc) (C := Try.checked) false ⟨#[], #[.int .u64 0, .int .u64 0, .int .u64 0, .agg #[.int .u64 0, .int .u64 0], .agg #[.int .u64 0, .int .u64 0]], []⟩ 8 (by kernel_rfl) (by kernel_rfl) (by kernel_rfl) (by kernel_rfl)) ?_
  intro W base args ds gs before hval0 hW hcnd hsz0 _
  have hsz : (DataW.weightsEach Try.prog (Try.f5.params.toList ++ Rows.clockTurnsSpec.plain.varTypes Try.prog) (ds ++ gs)).all (· ≤ reachBytes) = true := hsz0
  have hval : ∀ (j : Nat) t v, Try.f5.params[j]? = some t → args[j]? = some v → Value.okWide Try.prog W .any base t v := hval0
  have hW' := hW
  obtain ⟨p, q, hA0, hV, rfl, hfz, hnd⟩ := hW
  have hA : DataW.TrodAll enc Try.prog W 0 (fun _ => true) true Try.f5.params.toList args.toList ds p := hA0
  rw [Try.params5] at hA hval hsz
  obtain ⟨v0, vs0, d0, ds0, p0, q0, hargs, rfl, rfl, h0, r0⟩ := trodAll_cons hA
  obtain ⟨v1, vs1, d1, ds1, p1, q1, rfl, rfl, rfl, h1, r1⟩ := trodAll_cons r0
  obtain ⟨v2, vs2, d2, ds2, p2, q2, rfl, rfl, rfl, h2, r2⟩ := trodAll_cons r1
  obtain ⟨v3, vs3, d3, ds3, p3, q3, rfl, rfl, rfl, h3, r3⟩ := trodAll_cons r2
  obtain ⟨v4, vs4, d4, ds4, p4, q4, rfl, rfl, rfl, h4, r4⟩ := trodAll_cons r3
  obtain ⟨rfl, rfl, rfl⟩ := trodAll_nil r4
  obtain rfl : args = #[v0, v1, v2, v3, v4] := by cases args; simp_all
  obtain ⟨rfl, rfl⟩ := trodVars_none hV
  obtain ⟨a0, rfl, rfl, rfl, w0⟩ := open_int Try.underlying22 (hval 0 22 v0 rfl rfl) h0
  obtain ⟨a1, rfl, rfl, rfl, w1⟩ := open_int Try.underlying22 (hval 1 22 v1 rfl rfl) h1
  obtain ⟨a2, rfl, rfl, rfl, w2⟩ := open_int Try.underlying22 (hval 2 22 v2 rfl rfl) h2
  have k3 := h3
  have lt3 : ∀ x ∈ p3, x.block < W.heap.size := by obtain ⟨m, hm⟩ := k3; exact DataW.trod_lt m _ _ _ hm
  obtain ⟨⟨c3_0, c3_1⟩, ⟨_, _, gc3_0, fc3_0, fc3_1⟩, u3⟩ := open_arg (o_struct Try.underlying24 (by kernel_rfl) (f_cons rfl (by kernel_rfl) (o_int Try.underlying22) (f_last rfl (by kernel_rfl) (o_int Try.underlying22)))) h3
  have e3 : v3.cells.toList = _ := gc3_0
  simp only [Kd.int, Kd.bool, Kd.string, kFloat, Kd.scalar] at fc3_0 fc3_1
  simp only [fc3_0, fc3_1, List.cons_append, List.nil_append] at e3
  have e3' := agg_of Try.underlying24 (hval 3 24 v3 rfl rfl) e3
  subst e3'
  have k4 := h4
  have lt4 : ∀ x ∈ p4, x.block < W.heap.size := by obtain ⟨m, hm⟩ := k4; exact DataW.trod_lt m _ _ _ hm
  obtain ⟨⟨c4_0, c4_1⟩, ⟨_, _, gc4_0, fc4_0, fc4_1⟩, u4⟩ := open_arg (o_struct Try.underlying24 (by kernel_rfl) (f_cons rfl (by kernel_rfl) (o_int Try.underlying22) (f_last rfl (by kernel_rfl) (o_int Try.underlying22)))) h4
  have e4 : v4.cells.toList = _ := gc4_0
  simp only [Kd.int, Kd.bool, Kd.string, kFloat, Kd.scalar] at fc4_0 fc4_1
  simp only [fc4_0, fc4_1, List.cons_append, List.nil_append] at e4
  have e4' := agg_of Try.underlying24 (hval 4 24 v4 rfl rfl) e4
  subst e4'
  clear hA0 hval0
  refine (turns_all a0 a1 a2 c3_0 c3_1 c4_0 c4_1 W (by have := bounds_u64 w0; unfold U64; omega) (by have := bounds_u64 w1; unfold U64; omega) (by have := bounds_u64 w2; unfold U64; omega) (by have := bounds_u64 u3.1; unfold U64; omega) (by have := bounds_u64 u3.2; unfold U64; omega) (by have := bounds_u64 u4.1; unfold U64; omega) (by have := bounds_u64 u4.2; unfold U64; omega)).mono fun e W' ⟨he, bel⟩ => ?_
  subst he
  exact ⟨_, rfl, _, _, _, [], _, [], hW', trodAll_mk1 (shut_bool Try.underlying4 _), (trodAll_cons_mk (shut_int Try.underlying22 w0) (trodAll_cons_mk (shut_int Try.underlying22 w1) (trodAll_cons_mk (shut_int Try.underlying22 w2) (trodAll_cons_mk (Below.trod laidOut (by kernel_rfl) (of_decide_eq_true (by kernel_rfl)) k3 bel lt3) (trodAll_cons_mk (Below.trod laidOut (by kernel_rfl) (of_decide_eq_true (by kernel_rfl)) k4 bel lt4) trodAll_mk0))))), rfl, bel.frame _, fun h => by cases h⟩
theorem over : Rows.clockTurnsRow.holds Try.pinned (OpenSpec.ofChange Rows.clockTurnsSpec) :=
  OpenClaim.holds_of_wide 5 Try.f5 rfl rfl rfl rfl rfl rfl rfl ⟨rfl, rfl, rfl, rfl, rfl⟩ rfl rfl rfl rfl rfl (by kernel_rfl) Try.func5 (by kernel_rfl)
    (of_decide_eq_true (by kernel_rfl)) (by unfold Func.isWrapper; first | (rw [if_pos (by decide +kernel)]; kernel_rfl) | (rw [if_neg (by decide +kernel)]; exact ⟨rfl, rfl⟩))
    (fun os started H enc _ => lifted os started H enc)
#print axioms over
end Go.Proofs.Ytcfndcjbgalnpaa.RowClockTurns
namespace Go.Proofs.Ytcfndcjbgalnpaa
theorem clockTurns_holds : Rows.ClockTurnsSaid := RowClockTurns.over
end Go.Proofs.Ytcfndcjbgalnpaa
