/- ClockGoes: the clock goes as the document's clock goes: any place, any speed, any operations at any times: the call returns true and leaves its arguments as they were. No condition. -/
import Derived.Test.YtcfndcjbgalnpaaRows
import Derived.Test.YtcfndcjbgalnpaaOpens
import Derived.Test.YtcfndcjbgalnpaaClock8
import Derived.WalkKit
import Derived.ProofKit
import Derived.OpenShut
import Derived.ShutString
import Derived.ChangeOld
import Derived.Below
import Derived.SizedLaws
namespace Go.Proofs.Ytcfndcjbgalnpaa.RowClockGoes
open Go.ChangeShapes Go.WideShapes Go.ChangeAt Go.RowKit
open Go.ChangeMaps (open_string shut_string)
open Go.Proofs.YtcfndcjbgalnpaaW.PrintWords Go.Proofs.Ytcfndcjbgalnpaa.Opens
open Go.Proofs.Ytcfndcjbgalnpaa.Hand
open Go.Proofs.Ytcfndcjbgalnpaa
set_option linter.unusedVariables false
set_option linter.unusedSimpArgs false
theorem ownK : ownKnob Try.prog.godebug = none := by kernel_rfl
theorem laidOut : laidOutB Try.prog = true := by kernel_rfl
theorem o24 : Opens Try.prog 24 PG.k24 (fun b => (Lit.int .u64 b.f0).wf = true ∧ (Lit.int .u64 b.f1).wf = true) := o_map (f := fun x : PG.S24 => (x.f0, x.f1)) (o_struct Try.underlying24 (by kernel_rfl) (f_cons rfl (by kernel_rfl) (o_int Try.underlying22) (f_last rfl (by kernel_rfl) (o_int Try.underlying22)))) (fun p => ⟨p.1, p.2⟩) (fun _ => rfl)
theorem o48 : Opens Try.prog 48 PG.k48 (fun b => (Lit.int .i64 b.f0).wf = true ∧ (Lit.int .u64 b.f1).wf = true ∧ (Lit.int .u64 b.f2).wf = true ∧ (Lit.int .u64 b.f3.f0).wf = true ∧ (Lit.int .u64 b.f3.f1).wf = true) := o_map (f := fun x : PG.S48 => (x.f0, x.f1, x.f2, x.f3)) (o_struct Try.underlying48 (by kernel_rfl) (f_cons rfl (by kernel_rfl) (o_int Try.underlying3) (f_cons rfl (by kernel_rfl) (o_int Try.underlying22) (f_cons rfl (by kernel_rfl) (o_int Try.underlying22) (f_last rfl (by kernel_rfl) o24))))) (fun p => ⟨p.1, p.2.1, p.2.2.1, p.2.2.2⟩) (fun _ => rfl)
set_option maxRecDepth 100000 in
theorem lifted (os : Os) (started : os.Started) (H : Type) (enc : TypeId × Value → H) :
    ReturnsInHanded {} Try.checked os 6 .any (Rows.clockGoesSpec.pre6 enc Try.prog Try.f6 Rows.clockGoesRow.domain false) (Rows.clockGoesSpec.post enc Try.prog Try.f6 false true false false) := by
  refine returnsInHanded_of_change_sized (C := Try.checked) ownK started (by kernel_rfl) Try.func6
    (ChangeSpec.witness6 (enc := enc) (C := Try.checked) false ⟨#[], #[.int .u64 0, .int .u64 0, .agg #[.int .u64 0, .int .u64 0], .slice none 0 0], []⟩ 8 (by kernel_rfl) (by kernel_rfl) (by kernel_rfl) (by kernel_rfl)) ?_
  intro W base args ds gs before hval0 hW hcnd hsz0 _
  have hsz : (DataW.weightsEach Try.prog (Try.f6.params.toList ++ Rows.clockGoesSpec.plain.varTypes Try.prog) (ds ++ gs)).all (· ≤ reachBytes) = true := hsz0
  have hval : ∀ (j : Nat) t v, Try.f6.params[j]? = some t → args[j]? = some v → Value.okWide Try.prog W .any base t v := hval0
  have hW' := hW
  obtain ⟨p, q, hA0, hV, rfl, hfz, hnd⟩ := hW
  have hA : DataW.TrodAll enc Try.prog W 0 (fun _ => true) true Try.f6.params.toList args.toList ds p := hA0
  rw [Try.params6] at hA hval hsz
  obtain ⟨v0, vs0, d0, ds0, p0, q0, hargs, rfl, rfl, h0, r0⟩ := trodAll_cons hA
  obtain ⟨v1, vs1, d1, ds1, p1, q1, rfl, rfl, rfl, h1, r1⟩ := trodAll_cons r0
  obtain ⟨v2, vs2, d2, ds2, p2, q2, rfl, rfl, rfl, h2, r2⟩ := trodAll_cons r1
  obtain ⟨v3, vs3, d3, ds3, p3, q3, rfl, rfl, rfl, h3, r3⟩ := trodAll_cons r2
  obtain ⟨rfl, rfl, rfl⟩ := trodAll_nil r3
  obtain rfl : args = #[v0, v1, v2, v3] := by cases args; simp_all
  obtain ⟨rfl, rfl⟩ := trodVars_none hV
  obtain ⟨a0, rfl, rfl, rfl, w0⟩ := open_int Try.underlying22 (hval 0 22 v0 rfl rfl) h0
  obtain ⟨a1, rfl, rfl, rfl, w1⟩ := open_int Try.underlying22 (hval 1 22 v1 rfl rfl) h1
  have k2 := h2
  have lt2 : ∀ x ∈ p2, x.block < W.heap.size := by obtain ⟨m, hm⟩ := k2; exact DataW.trod_lt m _ _ _ hm
  obtain ⟨⟨c2_0, c2_1⟩, ⟨_, _, gc2_0, fc2_0, fc2_1⟩, u2⟩ := open_arg (o_struct Try.underlying24 (by kernel_rfl) (f_cons rfl (by kernel_rfl) (o_int Try.underlying22) (f_last rfl (by kernel_rfl) (o_int Try.underlying22)))) h2
  have e2 : v2.cells.toList = _ := gc2_0
  simp only [Kd.int, Kd.bool, Kd.string, kFloat, Kd.scalar] at fc2_0 fc2_1
  simp only [fc2_0, fc2_1, List.cons_append, List.nil_append] at e2
  have e2' := agg_of Try.underlying24 (hval 2 24 v2 rfl rfl) e2
  subst e2'
  have k3 := h3
  have lt3 : ∀ x ∈ p3, x.block < W.heap.size := by obtain ⟨m, hm⟩ := k3; exact DataW.trod_lt m _ _ _ hm
  obtain ⟨l3, ⟨A3, c3, e3, hc3, hC3⟩, q3⟩ := open_arg (o_slice Try.underlying41 (by kernel_rfl) o48) h3
  obtain ⟨_, _, _, z3⟩ := okWide_slice Try.underlying41 (hval 3 41 v3 rfl rfl)
  obtain rfl : v3 = .slice A3 l3.length c3 := by subst z3; simpa [Value.cells] using e3
  have y3 := sized_any hsz (j := 3) (t := 41) rfl rfl Try.underlying41 h3
  clear hA0 hval0
  refine (goes_all a0 a1 c2_0 c2_1 A3 c3 l3 W hC3 hc3 (by have := bounds_u64 w0; unfold U64; omega) (by have := bounds_u64 w1; unfold U64; omega) (by have := bounds_u64 u2.1; unfold U64; omega) (by have := bounds_u64 u2.2; unfold U64; omega) (fun o ho => by have z := q3.2 o ho; exact ⟨by have := bounds_u64 z.2.1; unfold U64; omega, by have := bounds_u64 z.2.2.1; unfold U64; omega, by have := bounds_u64 z.2.2.2.1; unfold U64; omega, by have := bounds_u64 z.2.2.2.2; unfold U64; omega⟩)).mono fun e W' ⟨he, bel⟩ => ?_
  subst he
  exact ⟨_, rfl, _, _, _, [], _, [], hW', trodAll_mk1 (shut_bool Try.underlying4 _), (trodAll_cons_mk (shut_int Try.underlying22 w0) (trodAll_cons_mk (shut_int Try.underlying22 w1) (trodAll_cons_mk (Below.trod laidOut (by kernel_rfl) (of_decide_eq_true (by kernel_rfl)) k2 bel lt2) (trodAll_cons_mk (Below.trod laidOut (by kernel_rfl) (of_decide_eq_true (by kernel_rfl)) k3 bel lt3) trodAll_mk0)))), rfl, bel.frame _, fun h => by cases h⟩
theorem over : Rows.clockGoesRow.holds Try.pinned (OpenSpec.ofChange Rows.clockGoesSpec) :=
  OpenClaim.holds_of_wide 6 Try.f6 rfl rfl rfl rfl rfl rfl rfl ⟨rfl, rfl, rfl, rfl, rfl⟩ rfl rfl rfl rfl rfl (by kernel_rfl) Try.func6 (by kernel_rfl)
    (of_decide_eq_true (by kernel_rfl)) (by unfold Func.isWrapper; first | (rw [if_pos (by decide +kernel)]; kernel_rfl) | (rw [if_neg (by decide +kernel)]; exact ⟨rfl, rfl⟩))
    (fun os started H enc _ => lifted os started H enc)
#print axioms over
end Go.Proofs.Ytcfndcjbgalnpaa.RowClockGoes
namespace Go.Proofs.Ytcfndcjbgalnpaa
theorem clockGoes_holds : Rows.ClockGoesSaid := RowClockGoes.over
end Go.Proofs.Ytcfndcjbgalnpaa
