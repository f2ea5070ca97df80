/- RateBack: a fraction's float is that fraction; scaled at once, or in two parts with the rest handed on, it is the same; a faster one never goes less far: the call returns true and leaves its arguments as they were. No condition; the table of the library is tied to the program's text. -/
import Derived.Test.YtpebcphkockkkaaDoorRows
import Derived.Test.YtpebcphkockkkaaDoorOpens
import Derived.Test.YtpebcphkockkkaaDoorTie
import Derived.Test.YtpebcphkockkkaaDoorCards
import Derived.Test.YtpebcphkockkkaaDoorTabR
import Derived.Test.YtpebcphkockkkaaDoorPureF3
import Derived.WalkKit
import Derived.ProofKit
import Derived.OpenShut
import Derived.ShutString
import Derived.ChangeOld
import Derived.Below
import Derived.SizedLaws
import Derived.LaidMore
import Derived.Stop.Joined
import Derived.SevenTiedAt
namespace Go.Proofs.YtpebcphkockkkaaDoor.RowRateBack
open Go.ChangeShapes Go.WideShapes Go.ChangeAt Go.RowKit
open Go.ChangeMaps (open_string shut_string)
open Go.Proofs.YtpebcphkockkkaaDoorW.PrintWords Go.Proofs.YtpebcphkockkkaaDoor.Opens
open Go.Proofs.YtpebcphkockkkaaDoor.Hand
open Go.Proofs.YtpebcphkockkkaaDoor.PF
set_option linter.unusedVariables false
set_option linter.unusedSimpArgs false
theorem ownK : ownKnob Tryd.prog.godebug = none := by kernel_rfl
theorem laidOut : laidOutB Tryd.prog = true := by kernel_rfl
abbrev laid2 : List (String × DataW Unit) := [("math/bits.deBruijn64tab", Rows.laid_math_bits_deBruijn64tab)]
set_option maxRecDepth 100000 in
theorem door_met (os : Os) (args : Array Value) : laidMetH Tryd.prog laid2 ((World.doorLaid Tryd.prog 400 os).forCall (fun _ _ => 0) ⟨#[], args, []⟩).memory :=
  laidMetH_of_parts3 (fuel := 8) (laidMet_of_run' 8 (by kernel_rfl) (by kernel_rfl)) (by kernel_rfl) (by kernel_rfl)
set_option maxRecDepth 100000 in
theorem lifted (os : Os) (started : os.Started) (H : Type) (enc : TypeId × Value → H) :
    ReturnsInHanded {} Tryd.checked os 7 .any (fun w args => (Rows.rateBackSpec.pre enc Tryd.prog Tryd.f7 [] false w args ∧ laidMetH Tryd.prog laid2 w) ∧ sizedMet enc Tryd.prog Tryd.f7 (OpenSpec.ofChange Rows.rateBackSpec) false w args)
      (Rows.rateBackSpec.post enc Tryd.prog Tryd.f7 false true false false) := by
  refine returnsInHanded_of_change_and (C := Tryd.checked) (X := fun w _ => laidMetH Tryd.prog laid2 w) (fun _ _ _ hh h => h.of_heap hh) ownK started (by kernel_rfl) Tryd.func7
    (ChangeSpec.witness_shaped (enc := enc) (C := Tryd.checked) (os := os) (X := fun w _ => laidMetH Tryd.prog laid2 w) false (World.doorLaid Tryd.prog 400 os) #[.agg #[.int .u64 0, .int .u64 0], .agg #[.int .u64 0, .int .u64 0], .int .u64 0, .int .u64 0] 8 rfl (World.shaped_of_RefB (by kernel_rfl) (by kernel_rfl)) (by kernel_rfl) (by kernel_rfl) (by kernel_rfl) (door_met os _)) ?_
  intro W base args ds gs before hval0 hW _ hsz0 hT _
  have hsz : (DataW.weightsEach Tryd.prog (Tryd.f7.params.toList ++ Rows.rateBackSpec.plain.varTypes Tryd.prog) (ds ++ gs)).all (· ≤ reachBytes) = true := hsz0
  have hval : ∀ (j : Nat) t v, Tryd.f7.params[j]? = some t → args[j]? = some v → Value.okWide Tryd.prog W .any base t v := hval0
  have hW' := hW
  obtain ⟨p, q, hA0, hV, rfl, hfz, hnd⟩ := hW
  have hA : DataW.TrodAll enc Tryd.prog W 0 (fun _ => true) true Tryd.f7.params.toList args.toList ds p := hA0
  rw [Tryd.params7] at hA hval hsz
  obtain ⟨v0, vs0, d0, ds0, p0, q0, hargs, rfl, rfl, h0, r0⟩ := trodAll_cons hA
  obtain ⟨v1, vs1, d1, ds1, p1, q1, rfl, rfl, rfl, h1, r1⟩ := trodAll_cons r0
  obtain ⟨v2, vs2, d2, ds2, p2, q2, rfl, rfl, rfl, h2, r2⟩ := trodAll_cons r1
  obtain ⟨v3, vs3, d3, ds3, p3, q3, rfl, rfl, rfl, h3, r3⟩ := trodAll_cons r2
  obtain ⟨rfl, rfl, rfl⟩ := trodAll_nil r3
  obtain rfl : args = #[v0, v1, v2, v3] := by cases args; simp_all
  obtain ⟨rfl, rfl⟩ := trodVars_none hV
  have k0 := h0
  have lt0 : ∀ x ∈ p0, x.block < W.heap.size := by obtain ⟨m, hm⟩ := k0; exact DataW.trod_lt m _ _ _ hm
  obtain ⟨⟨c0_0, c0_1⟩, ⟨_, _, gc0_0, fc0_0, fc0_1⟩, u0⟩ := open_arg (o_struct Tryd.underlying26 (by kernel_rfl) (f_cons rfl (by kernel_rfl) (o_int Tryd.underlying22) (f_last rfl (by kernel_rfl) (o_int Tryd.underlying22)))) h0
  have e0 : v0.cells.toList = _ := gc0_0
  simp only [Kd.int, Kd.bool, Kd.string, kFloat, Kd.scalar] at fc0_0 fc0_1
  simp only [fc0_0, fc0_1, List.cons_append, List.nil_append] at e0
  have e0' := agg_of Tryd.underlying26 (hval 0 26 v0 rfl rfl) e0
  subst e0'
  have k1 := h1
  have lt1 : ∀ x ∈ p1, x.block < W.heap.size := by obtain ⟨m, hm⟩ := k1; exact DataW.trod_lt m _ _ _ hm
  obtain ⟨⟨c1_0, c1_1⟩, ⟨_, _, gc1_0, fc1_0, fc1_1⟩, u1⟩ := open_arg (o_struct Tryd.underlying26 (by kernel_rfl) (f_cons rfl (by kernel_rfl) (o_int Tryd.underlying22) (f_last rfl (by kernel_rfl) (o_int Tryd.underlying22)))) h1
  have e1 : v1.cells.toList = _ := gc1_0
  simp only [Kd.int, Kd.bool, Kd.string, kFloat, Kd.scalar] at fc1_0 fc1_1
  simp only [fc1_0, fc1_1, List.cons_append, List.nil_append] at e1
  have e1' := agg_of Tryd.underlying26 (hval 1 26 v1 rfl rfl) e1
  subst e1'
  obtain ⟨a2, rfl, rfl, rfl, w2⟩ := open_int Tryd.underlying22 (hval 2 22 v2 rfl rfl) h2
  obtain ⟨a3, rfl, rfl, rfl, w3⟩ := open_int Tryd.underlying22 (hval 3 22 v3 rfl rfl) h3
  clear hA0 hval0
  refine (tiklaw1_RateBack.calls 3 c0_0 c0_1 c1_0 c1_1 a2 a3 true W (tabW_of hT) ⟨rfl⟩ (back_any 0 (by have := bounds_u64 u0.1; unfold U64; omega) (by have := bounds_u64 u0.2; unfold U64; omega) (by have := bounds_u64 u1.1; unfold U64; omega) (by have := bounds_u64 u1.2; unfold U64; omega) (by have := bounds_u64 w2; unfold U64; omega) (by have := bounds_u64 w3; unfold U64; omega))).mono fun e W' ⟨he, bel⟩ => ?_
  subst he
  exact ⟨_, rfl, _, _, _, [], _, [], hW', trodAll_mk1 (shut_bool Tryd.underlying4 _), (trodAll_cons_mk (Below.trod laidOut (by kernel_rfl) (of_decide_eq_true (by kernel_rfl)) k0 bel lt0) (trodAll_cons_mk (Below.trod laidOut (by kernel_rfl) (of_decide_eq_true (by kernel_rfl)) k1 bel lt1) (trodAll_cons_mk (shut_int Tryd.underlying22 w2) (trodAll_cons_mk (shut_int Tryd.underlying22 w3) trodAll_mk0)))), rfl, bel.frame _, fun h => by cases h⟩
theorem over : Rows.rateBackRow.holds Tryd.pinned (OpenSpec.ofChange Rows.rateBackSpec) :=
  OpenClaim.holds_of_wide 7 Tryd.f7 rfl rfl rfl rfl rfl rfl rfl ⟨rfl, rfl, rfl, rfl, rfl⟩ rfl rfl rfl rfl rfl (by kernel_rfl) Tryd.func7 (by kernel_rfl)
    (of_decide_eq_true (by kernel_rfl)) (by unfold Func.isWrapper; first | (rw [if_pos (by decide +kernel)]; kernel_rfl) | (rw [if_neg (by decide +kernel)]; exact ⟨rfl, rfl⟩))
    (fun os started H enc _ => lifted os started H enc)
theorem card : Rows.RateBackCardSaid :=
  Claim7.holds_tied_plain_at .later [] [.data] true (true, "115b7268131bdcbf406e2c3976ff2e6e4d281639f56a2a6580d33a7e950c11fc") false
    over (fun _ h => by cases h) (by kernel_rfl) (fun _ h => by cases h) rateBack_row_tie rfl ⟨rfl, rfl⟩ (by kernel_rfl) rfl
    (fun f fn hf hfn => by
      obtain rfl : f = 7 := Option.some.inj ((show Tryd.prog.funcNamed "tickertape/tiklaw1.RateBack" = some 7 by kernel_rfl).symm.trans hf) |>.symm
      obtain rfl : fn = Tryd.f7 := (Option.some.inj (Tryd.func7.symm.trans hfn)).symm
      exact ⟨by kernel_rfl, fun j t ht => by
        rw [Tryd.params7] at ht
        have hm : t ∈ [26, 26, 22, 22] := by simpa using Array.mem_of_getElem? ht
        have hall : ([26, 26, 22, 22].all fun u => !Tryd.prog.wantsStandIn u) = true := by kernel_rfl
        exact (show Tryd.prog.wantsStandIn t = false by simpa using List.all_eq_true.1 hall t hm)⟩)
    (by kernel_rfl)
#print axioms card
end Go.Proofs.YtpebcphkockkkaaDoor.RowRateBack
namespace Go.Proofs.YtpebcphkockkkaaDoor
theorem rateBack_holds : Rows.RateBackCardSaid := RowRateBack.card
end Go.Proofs.YtpebcphkockkkaaDoor
