-- written for this claim by mp.py (this repo), with the kit's print; checked by the kernel alone
import Derived.Test.YtcfndcjbgalnpaaPLx0
import Derived.Test.YtcfndcjbgalnpaaPLx1
namespace Go.Proofs.Ytcfndcjbgalnpaa.PL
open Go.RowKit Go.Proofs.YtcfndcjbgalnpaaW.PrintWords Go.Proofs.YtcfndcjbgalnpaaW.PrintLast Go.Proofs.YtcfndcjbgalnpaaW.PrintMore
attribute [local go_sem] max2_int min2_int max_two min_two max_three min_three max_four min_four   -- for this text's walks alone
open Go.Proofs.Ytcfndcjbgalnpaa.Hand
open Go.Proofs.Ytcfndcjbgalnpaa.PA
open Go.Proofs.Ytcfndcjbgalnpaa.PB
open Go.Proofs.Ytcfndcjbgalnpaa.PC
set_option linter.unusedVariables false
set_option linter.unusedSimpArgs false

/-! ### tiklaw22_ClockSpeeds: function 4 -/
mutual
def tiklaw22_ClockSpeeds.j0 : Nat → Int → Int → List Int → Bool → Int → Int → Int → Int → Int → Int → Int → Int → Int → Int → Int → Int → Option (Bool)
  | 0, _, _, _, _, _, _, _, _, _, _, _, _, _, _, _, _ => none
  | k + 1, x0, x1, x4, x75, x202000, x202001, x210000, x210001, x210002, x210003, x210004, x217000, x217001, x217002, x217003, x217004 => if x75 = true then ((tiklaw22_first.f).bind fun t218 => (some t218)) else (tiklaw22_ClockSpeeds.l0 k x0 x1 x4 x0 0 x202000 x202001 x210000 x210001 x210002 x210003 x210004 x217000 x217001 x217002 x217003 x217004)
def tiklaw22_ClockSpeeds.l0 : Nat → Int → Int → List Int → Int → Int → Int → Int → Int → Int → Int → Int → Int → Int → Int → Int → Int → Int → Option (Bool)
  | 0, _, _, _, _, _, _, _, _, _, _, _, _, _, _, _, _, _ => none
  | k + 1, x0, x1, x4, x15, x16, x202000, x202001, x210000, x210001, x210002, x210003, x210004, x217000, x217001, x217002, x217003, x217004 => if x16 < (x4.length : Int) then (if 0 ≤ x16 then (if (rd x4 x16) > 1048576 then ((tiklaw22_first.f).bind fun t220 => (some t220)) else ((clock_Clock_Go.f x210000 x210001 x210002 x210003 x210004 (IntKind.u64.wrap (x15 + (rd x4 x16)))).bind fun bt222 => ((clock_Clock_Go.f x217000 x217001 x217002 x217003 x217004 (IntKind.u64.wrap (x15 + (rd x4 x16)))).bind fun bt228 => (if bt222.1 < bt228.1 then (some false) else (tiklaw22_ClockSpeeds.l0 k x0 x1 x4 (IntKind.u64.wrap (x15 + (rd x4 x16))) (wrap64 (x16 + 1)) x202000 x202001 bt222.2.1 bt222.2.2.1 bt222.2.2.2.1 bt222.2.2.2.2.1 bt222.2.2.2.2.2 bt228.2.1 bt228.2.2.1 bt228.2.2.2.1 bt228.2.2.2.2.1 bt228.2.2.2.2.2))))) else (none)) else ((rate_Scale.f (IntKind.u64.wrap (x15 - x0)) 0 x202000 x202001).bind fun bt234 => ((tiklaw22_first.f).bind fun t237 => (if t237 = true then (if bt234.2.2 = 0 then ((clock_Clock_At.f x210000 x210001 x210002 x210003 x210004 x15).bind fun bt238 => (if bt238.1 = (IntKind.u64.wrap (x1 + bt234.1)) then ((clock_Clock_Rest.f bt238.2.1 bt238.2.2.1 bt238.2.2.2.1 bt238.2.2.2.2.1 bt238.2.2.2.2.2).bind fun bt244 => (some (bt244.1 == bt234.2.1))) else (some false))) else (some false)) else (some false))))
end
def tiklaw22_ClockSpeeds.f (k : Nat) (a0 : Int) (a1 : Int) (a2_0 : Int) (a2_1 : Int) (a3_0 : Int) (a3_1 : Int) (l4 : List Int) : Option (Bool) := (tiklaw22_first.f).bind fun t203 => (if t203 = true then ((clock_New.f a0 a1 a2_0 a2_1).bind fun bt204 => ((clock_New.f a0 a1 a3_0 a3_1).bind fun bt211 => (if false = true then (tiklaw22_ClockSpeeds.j0 k a0 a1 l4 true a2_0 a2_1 bt204.1 bt204.2.1 bt204.2.2.1 bt204.2.2.2.1 bt204.2.2.2.2.1 bt211.1 bt211.2.1 bt211.2.2.1 bt211.2.2.2.1 bt211.2.2.2.2.1) else (if bt204.2.2.2.2.2 = 0 then (if bt211.2.2.2.2.2 = 0 then (if (l4.length : Int) > 200 then (tiklaw22_ClockSpeeds.j0 k a0 a1 l4 true a2_0 a2_1 bt204.1 bt204.2.1 bt204.2.2.1 bt204.2.2.2.1 bt204.2.2.2.2.1 bt211.1 bt211.2.1 bt211.2.2.1 bt211.2.2.2.1 bt211.2.2.2.2.1) else (if a0 > 1125899906842624 then (tiklaw22_ClockSpeeds.j0 k a0 a1 l4 true a2_0 a2_1 bt204.1 bt204.2.1 bt204.2.2.1 bt204.2.2.2.1 bt204.2.2.2.2.1 bt211.1 bt211.2.1 bt211.2.2.1 bt211.2.2.2.1 bt211.2.2.2.2.1) else (if a1 > 1125899906842624 then (tiklaw22_ClockSpeeds.j0 k a0 a1 l4 true a2_0 a2_1 bt204.1 bt204.2.1 bt204.2.2.1 bt204.2.2.2.1 bt204.2.2.2.2.1 bt211.1 bt211.2.1 bt211.2.2.1 bt211.2.2.2.1 bt211.2.2.2.2.1) else (tiklaw22_ClockSpeeds.j0 k a0 a1 l4 (decide ((IntKind.u64.wrap (a2_0 * a3_1)) < (IntKind.u64.wrap (a3_0 * a2_1)))) a2_0 a2_1 bt204.1 bt204.2.1 bt204.2.2.1 bt204.2.2.2.1 bt204.2.2.2.2.1 bt211.1 bt211.2.1 bt211.2.2.1 bt211.2.2.2.1 bt211.2.2.2.2.1)))) else (tiklaw22_ClockSpeeds.j0 k a0 a1 l4 true a2_0 a2_1 bt204.1 bt204.2.1 bt204.2.2.1 bt204.2.2.2.1 bt204.2.2.2.2.1 bt211.1 bt211.2.1 bt211.2.2.1 bt211.2.2.2.1 bt211.2.2.2.2.1)) else (tiklaw22_ClockSpeeds.j0 k a0 a1 l4 true a2_0 a2_1 bt204.1 bt204.2.1 bt204.2.2.1 bt204.2.2.2.1 bt204.2.2.2.2.1 bt211.1 bt211.2.1 bt211.2.2.1 bt211.2.2.2.1 bt211.2.2.2.2.1))))) else (some false))
theorem tiklaw22_ClockSpeeds.mono_l : ∀ k, (∀ y0 y1 y2 y3 y4 y5 y6 y7 y8 y9 y10 y11 y12 y13 y14 y15, LeO (tiklaw22_ClockSpeeds.j0 k y0 y1 y2 y3 y4 y5 y6 y7 y8 y9 y10 y11 y12 y13 y14 y15) (tiklaw22_ClockSpeeds.j0 (k + 1) y0 y1 y2 y3 y4 y5 y6 y7 y8 y9 y10 y11 y12 y13 y14 y15)) ∧ (∀ y0 y1 y2 y3 y4 y5 y6 y7 y8 y9 y10 y11 y12 y13 y14 y15 y16, LeO (tiklaw22_ClockSpeeds.l0 k y0 y1 y2 y3 y4 y5 y6 y7 y8 y9 y10 y11 y12 y13 y14 y15 y16) (tiklaw22_ClockSpeeds.l0 (k + 1) y0 y1 y2 y3 y4 y5 y6 y7 y8 y9 y10 y11 y12 y13 y14 y15 y16))
  | 0 => ⟨fun _ _ _ _ _ _ _ _ _ _ _ _ _ _ _ _ r h => by simp [tiklaw22_ClockSpeeds.j0] at h, fun _ _ _ _ _ _ _ _ _ _ _ _ _ _ _ _ _ r h => by simp [tiklaw22_ClockSpeeds.l0] at h⟩
  | k + 1 => by
    obtain ⟨ih0, ih1⟩ := tiklaw22_ClockSpeeds.mono_l k
    refine ⟨?_, ?_⟩
    · intro y0 y1 y2 y3 y4 y5 y6 y7 y8 y9 y10 y11 y12 y13 y14 y15
      unfold tiklaw22_ClockSpeeds.j0
      repeat' first
      | (with_reducible exact ih0 _ _ _ _ _ _ _ _ _ _ _ _ _ _ _ _)
      | (with_reducible exact ih1 _ _ _ _ _ _ _ _ _ _ _ _ _ _ _ _ _)
      | (with_reducible exact LeO.refl _)
      | (with_reducible exact LeO.none _)
      | (with_reducible refine LeO.ite ?_ ?_)
      | (with_reducible refine LeO.bind ?_ (fun _ => ?_))
      | exact ih0 _ _ _ _ _ _ _ _ _ _ _ _ _ _ _ _
      | exact ih1 _ _ _ _ _ _ _ _ _ _ _ _ _ _ _ _ _
      | exact LeO.none _
      | refine LeO.ite ?_ ?_
      | refine LeO.bind ?_ (fun _ => ?_)
    · intro y0 y1 y2 y3 y4 y5 y6 y7 y8 y9 y10 y11 y12 y13 y14 y15 y16
      unfold tiklaw22_ClockSpeeds.l0
      repeat' first
      | (with_reducible exact ih0 _ _ _ _ _ _ _ _ _ _ _ _ _ _ _ _)
      | (with_reducible exact ih1 _ _ _ _ _ _ _ _ _ _ _ _ _ _ _ _ _)
      | (with_reducible exact LeO.refl _)
      | (with_reducible exact LeO.none _)
      | (with_reducible refine LeO.ite ?_ ?_)
      | (with_reducible refine LeO.bind ?_ (fun _ => ?_))
      | exact ih0 _ _ _ _ _ _ _ _ _ _ _ _ _ _ _ _
      | exact ih1 _ _ _ _ _ _ _ _ _ _ _ _ _ _ _ _ _
      | exact LeO.none _
      | refine LeO.ite ?_ ?_
      | refine LeO.bind ?_ (fun _ => ?_)
theorem tiklaw22_ClockSpeeds.mono : ∀ a0 a1 a2 a3 a4 a5 a6 k, LeO (tiklaw22_ClockSpeeds.f k a0 a1 a2 a3 a4 a5 a6) (tiklaw22_ClockSpeeds.f (k + 1) a0 a1 a2 a3 a4 a5 a6) := by
  intro a0 a1 a2 a3 a4 a5 a6 k
  obtain ⟨ih0, ih1⟩ := tiklaw22_ClockSpeeds.mono_l k
  unfold tiklaw22_ClockSpeeds.f
  repeat' first
      | (with_reducible exact ih0 _ _ _ _ _ _ _ _ _ _ _ _ _ _ _ _)
      | (with_reducible exact ih1 _ _ _ _ _ _ _ _ _ _ _ _ _ _ _ _ _)
      | (with_reducible exact LeO.refl _)
      | (with_reducible exact LeO.none _)
      | (with_reducible refine LeO.ite ?_ ?_)
      | (with_reducible refine LeO.bind ?_ (fun _ => ?_))
      | exact ih0 _ _ _ _ _ _ _ _ _ _ _ _ _ _ _ _
      | exact ih1 _ _ _ _ _ _ _ _ _ _ _ _ _ _ _ _ _
      | exact LeO.none _
      | refine LeO.ite ?_ ?_
      | refine LeO.bind ?_ (fun _ => ?_)
set_option maxHeartbeats 8000000 in
set_option maxRecDepth 100000 in
theorem tiklaw22_ClockSpeeds.calls (k : Nat) (a0 : Int) (a1 : Int) (a2_0 : Int) (a2_1 : Int) (a3_0 : Int) (a3_1 : Int) (A4 : Option Addr) (c4 : Nat) (l4 : List Int) (r : Bool) (w : World) (hr4 : Kd.C (Kd.int .u64) w A4 l4.length l4) (hc4 : l4.length ≤ c4) (hr_ : Aside0 (r = true)) (h : tiklaw22_ClockSpeeds.f k a0 a1 a2_0 a2_1 a3_0 a3_1 l4 = some r) :
    Calls Try.prog 4 #[.int .u64 a0, .int .u64 a1, .agg #[.int .u64 a2_0, .int .u64 a2_1], .agg #[.int .u64 a3_0, .int .u64 a3_1], .slice A4 l4.length c4] w fun e w' => e = .returned (.bool r) ∧ Below w.heap.size w w' := by
  have hu24 := Try.underlying24
  have HR4 := Aside0.mk hr4
  have HC4 := Aside0.mk hc4
  clear hr4 hc4
  have HB := Aside0.mk (Below.refl w.heap.size w)
  have H : ((tiklaw22_first.f).bind fun t203 => (if t203 = true then ((clock_New.f a0 a1 a2_0 a2_1).bind fun bt204 => ((clock_New.f a0 a1 a3_0 a3_1).bind fun bt211 => (if false = true then (tiklaw22_ClockSpeeds.j0 k a0 a1 l4 true a2_0 a2_1 bt204.1 bt204.2.1 bt204.2.2.1 bt204.2.2.2.1 bt204.2.2.2.2.1 bt211.1 bt211.2.1 bt211.2.2.1 bt211.2.2.2.1 bt211.2.2.2.2.1) else (if bt204.2.2.2.2.2 = 0 then (if bt211.2.2.2.2.2 = 0 then (if (l4.length : Int) > 200 then (tiklaw22_ClockSpeeds.j0 k a0 a1 l4 true a2_0 a2_1 bt204.1 bt204.2.1 bt204.2.2.1 bt204.2.2.2.1 bt204.2.2.2.2.1 bt211.1 bt211.2.1 bt211.2.2.1 bt211.2.2.2.1 bt211.2.2.2.2.1) else (if a0 > 1125899906842624 then (tiklaw22_ClockSpeeds.j0 k a0 a1 l4 true a2_0 a2_1 bt204.1 bt204.2.1 bt204.2.2.1 bt204.2.2.2.1 bt204.2.2.2.2.1 bt211.1 bt211.2.1 bt211.2.2.1 bt211.2.2.2.1 bt211.2.2.2.2.1) else (if a1 > 1125899906842624 then (tiklaw22_ClockSpeeds.j0 k a0 a1 l4 true a2_0 a2_1 bt204.1 bt204.2.1 bt204.2.2.1 bt204.2.2.2.1 bt204.2.2.2.2.1 bt211.1 bt211.2.1 bt211.2.2.1 bt211.2.2.2.1 bt211.2.2.2.2.1) else (tiklaw22_ClockSpeeds.j0 k a0 a1 l4 (decide ((IntKind.u64.wrap (a2_0 * a3_1)) < (IntKind.u64.wrap (a3_0 * a2_1)))) a2_0 a2_1 bt204.1 bt204.2.1 bt204.2.2.1 bt204.2.2.2.1 bt204.2.2.2.2.1 bt211.1 bt211.2.1 bt211.2.2.1 bt211.2.2.2.1 bt211.2.2.2.2.1)))) else (tiklaw22_ClockSpeeds.j0 k a0 a1 l4 true a2_0 a2_1 bt204.1 bt204.2.1 bt204.2.2.1 bt204.2.2.2.1 bt204.2.2.2.2.1 bt211.1 bt211.2.1 bt211.2.2.1 bt211.2.2.2.1 bt211.2.2.2.2.1)) else (tiklaw22_ClockSpeeds.j0 k a0 a1 l4 true a2_0 a2_1 bt204.1 bt204.2.1 bt204.2.2.1 bt204.2.2.2.1 bt204.2.2.2.2.1 bt211.1 bt211.2.1 bt211.2.2.1 bt211.2.2.2.1 bt211.2.2.2.2.1))))) else (some false))) = some r := h
  clear h
  replace H := Option.bind_eq_some_iff.mp H
  obtain ⟨t203, A60, H⟩ := H
  replace H : (if t203 = true then ((clock_New.f a0 a1 a2_0 a2_1).bind fun bt204 => ((clock_New.f a0 a1 a3_0 a3_1).bind fun bt211 => (if false = true then (tiklaw22_ClockSpeeds.j0 k a0 a1 l4 true a2_0 a2_1 bt204.1 bt204.2.1 bt204.2.2.1 bt204.2.2.2.1 bt204.2.2.2.2.1 bt211.1 bt211.2.1 bt211.2.2.1 bt211.2.2.2.1 bt211.2.2.2.2.1) else (if bt204.2.2.2.2.2 = 0 then (if bt211.2.2.2.2.2 = 0 then (if (l4.length : Int) > 200 then (tiklaw22_ClockSpeeds.j0 k a0 a1 l4 true a2_0 a2_1 bt204.1 bt204.2.1 bt204.2.2.1 bt204.2.2.2.1 bt204.2.2.2.2.1 bt211.1 bt211.2.1 bt211.2.2.1 bt211.2.2.2.1 bt211.2.2.2.2.1) else (if a0 > 1125899906842624 then (tiklaw22_ClockSpeeds.j0 k a0 a1 l4 true a2_0 a2_1 bt204.1 bt204.2.1 bt204.2.2.1 bt204.2.2.2.1 bt204.2.2.2.2.1 bt211.1 bt211.2.1 bt211.2.2.1 bt211.2.2.2.1 bt211.2.2.2.2.1) else (if a1 > 1125899906842624 then (tiklaw22_ClockSpeeds.j0 k a0 a1 l4 true a2_0 a2_1 bt204.1 bt204.2.1 bt204.2.2.1 bt204.2.2.2.1 bt204.2.2.2.2.1 bt211.1 bt211.2.1 bt211.2.2.1 bt211.2.2.2.1 bt211.2.2.2.2.1) else (tiklaw22_ClockSpeeds.j0 k a0 a1 l4 (decide ((IntKind.u64.wrap (a2_0 * a3_1)) < (IntKind.u64.wrap (a3_0 * a2_1)))) a2_0 a2_1 bt204.1 bt204.2.1 bt204.2.2.1 bt204.2.2.2.1 bt204.2.2.2.2.1 bt211.1 bt211.2.1 bt211.2.2.1 bt211.2.2.2.1 bt211.2.2.2.2.1)))) else (tiklaw22_ClockSpeeds.j0 k a0 a1 l4 true a2_0 a2_1 bt204.1 bt204.2.1 bt204.2.2.1 bt204.2.2.2.1 bt204.2.2.2.2.1 bt211.1 bt211.2.1 bt211.2.2.1 bt211.2.2.2.1 bt211.2.2.2.2.1)) else (tiklaw22_ClockSpeeds.j0 k a0 a1 l4 true a2_0 a2_1 bt204.1 bt204.2.1 bt204.2.2.1 bt204.2.2.2.1 bt204.2.2.2.2.1 bt211.1 bt211.2.1 bt211.2.2.1 bt211.2.2.2.1 bt211.2.2.2.2.1))))) else (some false)) = some r := H
  have A6 := Aside0.mk A60
  clear A60
  by_cases c7 : t203 = true
  · subst c7
    have H1 : ((clock_New.f a0 a1 a2_0 a2_1).bind fun bt204 => ((clock_New.f a0 a1 a3_0 a3_1).bind fun bt211 => (if false = true then (tiklaw22_ClockSpeeds.j0 k a0 a1 l4 true a2_0 a2_1 bt204.1 bt204.2.1 bt204.2.2.1 bt204.2.2.2.1 bt204.2.2.2.2.1 bt211.1 bt211.2.1 bt211.2.2.1 bt211.2.2.2.1 bt211.2.2.2.2.1) else (if bt204.2.2.2.2.2 = 0 then (if bt211.2.2.2.2.2 = 0 then (if (l4.length : Int) > 200 then (tiklaw22_ClockSpeeds.j0 k a0 a1 l4 true a2_0 a2_1 bt204.1 bt204.2.1 bt204.2.2.1 bt204.2.2.2.1 bt204.2.2.2.2.1 bt211.1 bt211.2.1 bt211.2.2.1 bt211.2.2.2.1 bt211.2.2.2.2.1) else (if a0 > 1125899906842624 then (tiklaw22_ClockSpeeds.j0 k a0 a1 l4 true a2_0 a2_1 bt204.1 bt204.2.1 bt204.2.2.1 bt204.2.2.2.1 bt204.2.2.2.2.1 bt211.1 bt211.2.1 bt211.2.2.1 bt211.2.2.2.1 bt211.2.2.2.2.1) else (if a1 > 1125899906842624 then (tiklaw22_ClockSpeeds.j0 k a0 a1 l4 true a2_0 a2_1 bt204.1 bt204.2.1 bt204.2.2.1 bt204.2.2.2.1 bt204.2.2.2.2.1 bt211.1 bt211.2.1 bt211.2.2.1 bt211.2.2.2.1 bt211.2.2.2.2.1) else (tiklaw22_ClockSpeeds.j0 k a0 a1 l4 (decide ((IntKind.u64.wrap (a2_0 * a3_1)) < (IntKind.u64.wrap (a3_0 * a2_1)))) a2_0 a2_1 bt204.1 bt204.2.1 bt204.2.2.1 bt204.2.2.2.1 bt204.2.2.2.2.1 bt211.1 bt211.2.1 bt211.2.2.1 bt211.2.2.2.1 bt211.2.2.2.2.1)))) else (tiklaw22_ClockSpeeds.j0 k a0 a1 l4 true a2_0 a2_1 bt204.1 bt204.2.1 bt204.2.2.1 bt204.2.2.2.1 bt204.2.2.2.2.1 bt211.1 bt211.2.1 bt211.2.2.1 bt211.2.2.2.1 bt211.2.2.2.2.1)) else (tiklaw22_ClockSpeeds.j0 k a0 a1 l4 true a2_0 a2_1 bt204.1 bt204.2.1 bt204.2.2.1 bt204.2.2.2.1 bt204.2.2.2.2.1 bt211.1 bt211.2.1 bt211.2.2.1 bt211.2.2.2.1 bt211.2.2.2.2.1))))) = some r := by rw [if_pos rfl] at H; exact H
    clear H
    have H := H1
    clear H1
    replace H := Option.bind_eq_some_iff.mp H
    obtain ⟨⟨t204, t205, t206, t207, t208, t210⟩, A80, H⟩ := H
    replace H : ((clock_New.f a0 a1 a3_0 a3_1).bind fun bt211 => (if false = true then (tiklaw22_ClockSpeeds.j0 k a0 a1 l4 true a2_0 a2_1 t204 t205 t206 t207 t208 bt211.1 bt211.2.1 bt211.2.2.1 bt211.2.2.2.1 bt211.2.2.2.2.1) else (if t210 = 0 then (if bt211.2.2.2.2.2 = 0 then (if (l4.length : Int) > 200 then (tiklaw22_ClockSpeeds.j0 k a0 a1 l4 true a2_0 a2_1 t204 t205 t206 t207 t208 bt211.1 bt211.2.1 bt211.2.2.1 bt211.2.2.2.1 bt211.2.2.2.2.1) else (if a0 > 1125899906842624 then (tiklaw22_ClockSpeeds.j0 k a0 a1 l4 true a2_0 a2_1 t204 t205 t206 t207 t208 bt211.1 bt211.2.1 bt211.2.2.1 bt211.2.2.2.1 bt211.2.2.2.2.1) else (if a1 > 1125899906842624 then (tiklaw22_ClockSpeeds.j0 k a0 a1 l4 true a2_0 a2_1 t204 t205 t206 t207 t208 bt211.1 bt211.2.1 bt211.2.2.1 bt211.2.2.2.1 bt211.2.2.2.2.1) else (tiklaw22_ClockSpeeds.j0 k a0 a1 l4 (decide ((IntKind.u64.wrap (a2_0 * a3_1)) < (IntKind.u64.wrap (a3_0 * a2_1)))) a2_0 a2_1 t204 t205 t206 t207 t208 bt211.1 bt211.2.1 bt211.2.2.1 bt211.2.2.2.1 bt211.2.2.2.2.1)))) else (tiklaw22_ClockSpeeds.j0 k a0 a1 l4 true a2_0 a2_1 t204 t205 t206 t207 t208 bt211.1 bt211.2.1 bt211.2.2.1 bt211.2.2.2.1 bt211.2.2.2.2.1)) else (tiklaw22_ClockSpeeds.j0 k a0 a1 l4 true a2_0 a2_1 t204 t205 t206 t207 t208 bt211.1 bt211.2.1 bt211.2.2.1 bt211.2.2.2.1 bt211.2.2.2.2.1)))) = some r := H
    have A8 := Aside0.mk A80
    clear A80
    replace H := Option.bind_eq_some_iff.mp H
    obtain ⟨⟨t211, t212, t213, t214, t215, t217⟩, A90, H⟩ := H
    replace H : (if false = true then (tiklaw22_ClockSpeeds.j0 k a0 a1 l4 true a2_0 a2_1 t204 t205 t206 t207 t208 t211 t212 t213 t214 t215) else (if t210 = 0 then (if t217 = 0 then (if (l4.length : Int) > 200 then (tiklaw22_ClockSpeeds.j0 k a0 a1 l4 true a2_0 a2_1 t204 t205 t206 t207 t208 t211 t212 t213 t214 t215) else (if a0 > 1125899906842624 then (tiklaw22_ClockSpeeds.j0 k a0 a1 l4 true a2_0 a2_1 t204 t205 t206 t207 t208 t211 t212 t213 t214 t215) else (if a1 > 1125899906842624 then (tiklaw22_ClockSpeeds.j0 k a0 a1 l4 true a2_0 a2_1 t204 t205 t206 t207 t208 t211 t212 t213 t214 t215) else (tiklaw22_ClockSpeeds.j0 k a0 a1 l4 (decide ((IntKind.u64.wrap (a2_0 * a3_1)) < (IntKind.u64.wrap (a3_0 * a2_1)))) a2_0 a2_1 t204 t205 t206 t207 t208 t211 t212 t213 t214 t215)))) else (tiklaw22_ClockSpeeds.j0 k a0 a1 l4 true a2_0 a2_1 t204 t205 t206 t207 t208 t211 t212 t213 t214 t215)) else (tiklaw22_ClockSpeeds.j0 k a0 a1 l4 true a2_0 a2_1 t204 t205 t206 t207 t208 t211 t212 t213 t214 t215))) = some r := H
    have A9 := Aside0.mk A90
    clear A90
    have HC10 := Aside0.mk H
    clear H
    go_enter Try.func4, Try.ntmps4
    go_upto_region 5 with (first | ((with_reducible refine gate_dst (N := 7) rfl ?_); (try (refine gate_guard (by rfl) ?_; dsimp only)); refine box_event ?hg (N := 7) ?hd (cs := #[.int .u64 a2_0, .int .u64 a2_1]) (t := 24) ?hr ?_; (case hd => rfl); (case hg => rfl); (case hr => first | (go_simp; done) | (go_simp; rfl)); intro gb201 hg w11 hbox hb; have n0_ := Aside0.mk (below_step (by repeat (first | (with_reducible first | exact HB.out | apply below_alloc | apply pw_below_drewN | apply below_drew1) | exact HB.out)) hb); have n1_ := Aside0.mk (hbox); have n2_ := Aside0.mk ((by rw [hg]; exact (below_size (by repeat (first | (with_reducible first | exact HB.out | apply below_alloc | apply pw_below_drewN | apply below_drew1) | exact HB.out))) : w.heap.size ≤ gb201)); have n3_ := Aside0.mk ((by rw [hg]; exact (below_size (by repeat (first | (with_reducible first | exact HB.out | apply below_alloc | apply pw_below_drewN | apply below_drew1) | exact HB.out))) : w.heap.size ≤ gb201)); clear HB; have HB := n0_; have BK201 := n1_; have GW201 := n2_; have GE201 := n3_; clear n0_ n1_ n2_ n3_; clear hb hbox hg) | ((with_reducible refine gate_dst (N := 8) rfl ?_); (try (refine gate_guard (by rfl) ?_; dsimp only)); refine box_event ?hg (N := 8) ?hd (cs := #[.int .u64 a3_0, .int .u64 a3_1]) (t := 24) ?hr ?_; (case hd => rfl); (case hg => rfl); (case hr => first | (go_simp; done) | (go_simp; rfl)); intro gb202 hg w12 hbox hb; have n0_ := Aside0.mk (blk_below (g := gb201) (o := .cells #[.int .u64 a2_0, .int .u64 a2_1] 24 (0, 0)) (by (with_reducible repeat (first | refine blk_drewN ?_ _ | refine blk_drew ?_ | refine blk_alloc ?_ _)); exact BK201.out) hb); have n1_ := Aside0.mk (below_step (by repeat (first | (with_reducible first | exact HB.out | apply below_alloc | apply pw_below_drewN | apply below_drew1 | refine below_set ?_ GE201.out) | exact HB.out)) hb); have n2_ := Aside0.mk (hbox); have n3_ := Aside0.mk ((by rw [hg]; exact (below_size (by repeat (first | (with_reducible first | exact HB.out | apply below_alloc | apply pw_below_drewN | apply below_drew1 | refine below_set ?_ GE201.out) | exact HB.out))) : w.heap.size ≤ gb202)); have n4_ := Aside0.mk ((by rw [hg]; exact (below_size (by repeat (first | (with_reducible first | exact HB.out | apply below_alloc | apply pw_below_drewN | apply below_drew1 | refine below_set ?_ GE201.out) | exact HB.out))) : w.heap.size ≤ gb202)); have n5_ := Aside0.mk ((by rw [hg]; exact Nat.ne_of_lt (blk_lt (g := gb201) (o := .cells #[.int .u64 a2_0, .int .u64 a2_1] 24 (0, 0)) (by (with_reducible repeat (first | refine blk_drewN ?_ _ | refine blk_drew ?_ | refine blk_alloc ?_ _)); exact BK201.out)) : gb201 ≠ gb202)); have n6_ := Aside0.mk ((by rw [hg]; exact Nat.ne_of_gt (blk_lt (g := gb201) (o := .cells #[.int .u64 a2_0, .int .u64 a2_1] 24 (0, 0)) (by (with_reducible repeat (first | refine blk_drewN ?_ _ | refine blk_drew ?_ | refine blk_alloc ?_ _)); exact BK201.out)) : gb202 ≠ gb201)); clear BK201; clear HB; have BK201 := n0_; have HB := n1_; have BK202 := n2_; have GW202 := n3_; have GE202 := n4_; have NB201_202 := n5_; have NB202_201 := n6_; clear n0_ n1_ n2_ n3_ n4_ n5_ n6_; clear hb hbox hg) | ((with_reducible refine gate_callee (f := 7) rfl ?_); refine goesL_ (some 20) rfl rfl Try.func7 (by kernel_rfl) rfl #[] rfl (by (try simp only [List.map_toArray, List.map_cons, List.map_nil]); first | done | rfl | (simp only [List.length_drop, List.length_take]; rfl)) ?_; (with_reducible refine (tiklaw22_first.calls  true _ A6.out).mono ?_); rintro e w13 ⟨rfl, hb⟩; refine ⟨_, rfl, ?_⟩; have n0_ := Aside0.mk (blk_below (g := gb201) (o := .cells #[.int .u64 a2_0, .int .u64 a2_1] 24 (0, 0)) (by (with_reducible repeat (first | refine blk_drewN ?_ _ | refine blk_drew ?_ | refine blk_alloc ?_ _)); exact BK201.out) hb); have n1_ := Aside0.mk (blk_below (g := gb202) (o := .cells #[.int .u64 a3_0, .int .u64 a3_1] 24 (0, 0)) (by (with_reducible repeat (first | refine blk_drewN ?_ _ | refine blk_drew ?_ | refine blk_alloc ?_ _)); exact BK202.out) hb); have n2_ := Aside0.mk (below_step (by repeat (first | (with_reducible first | exact HB.out | apply below_alloc | apply pw_below_drewN | apply below_drew1 | refine below_set ?_ GE201.out | refine below_set ?_ GE202.out) | exact HB.out)) hb); clear BK201; clear BK202; clear HB; have BK201 := n0_; have BK202 := n1_; have HB := n2_; clear n0_ n1_ n2_; (try clear hb); (try clear hb2); (try clear hk); (try clear hi); have hnb14 := NB201_202.out; have hnc14 := NB202_201.out; have hcz15_0 : w13.cell? ⟨gb201, 0, none⟩ = some (.int .u64 a2_0) := (blk_cell BK201.out 0).trans rfl; have hcz15_1 : w13.cell? ⟨gb201, 1, none⟩ = some (.int .u64 a2_1) := (blk_cell BK201.out 1).trans rfl; have hfz15_0 := blk_frozen BK201.out 0; have hfz15_1 := blk_frozen BK201.out 1) | ((with_reducible refine gate_callee (f := 8) rfl ?_); refine goesL_ (some 26) rfl rfl Try.func8 (by kernel_rfl) rfl #[.int .u64 a0, .int .u64 a1, .agg #[.int .u64 a2_0, .int .u64 a2_1]] rfl (by (try simp only [List.map_toArray, List.map_cons, List.map_nil]); first | done | rfl | (simp only [List.length_drop, List.length_take]; rfl)) ?_; (with_reducible refine (clock_New.calls a0 a1 a2_0 a2_1 t204 t205 t206 t207 t208 t210 w _ ?side1 A8.out).mono ?_); (case side1 => repeat (first | (with_reducible first | exact HB.out | apply below_alloc | apply pw_below_drewN | apply below_drew1 | refine below_set ?_ GE201.out | refine below_set ?_ GE202.out) | exact HB.out)); rintro e w16 ⟨g209, rfl, hi, hb, hb2, hnew⟩; refine ⟨_, rfl, ?_⟩; have n0_ := Aside0.mk (blk_below (g := gb201) (o := .cells #[.int .u64 a2_0, .int .u64 a2_1] 24 (0, 0)) (by (with_reducible repeat (first | refine blk_drewN ?_ _ | refine blk_drew ?_ | refine blk_alloc ?_ _)); exact BK201.out) hb2); have n1_ := Aside0.mk (blk_below (g := gb202) (o := .cells #[.int .u64 a3_0, .int .u64 a3_1] 24 (0, 0)) (by (with_reducible repeat (first | refine blk_drewN ?_ _ | refine blk_drew ?_ | refine blk_alloc ?_ _)); exact BK202.out) hb2); have n2_ := Aside0.mk (hb); have n3_ := Aside0.mk (hi); have n4_ := Aside0.mk (IsS55.ne_blk hi (blk_below (g := gb201) (o := .cells #[.int .u64 a2_0, .int .u64 a2_1] 24 (0, 0)) (by (with_reducible repeat (first | refine blk_drewN ?_ _ | refine blk_drew ?_ | refine blk_alloc ?_ _)); exact BK201.out) hb2) (by decide)); have n5_ := Aside0.mk (Ne.symm (IsS55.ne_blk hi (blk_below (g := gb201) (o := .cells #[.int .u64 a2_0, .int .u64 a2_1] 24 (0, 0)) (by (with_reducible repeat (first | refine blk_drewN ?_ _ | refine blk_drew ?_ | refine blk_alloc ?_ _)); exact BK201.out) hb2) (by decide))); have n6_ := Aside0.mk (IsS55.ne_blk hi (blk_below (g := gb202) (o := .cells #[.int .u64 a3_0, .int .u64 a3_1] 24 (0, 0)) (by (with_reducible repeat (first | refine blk_drewN ?_ _ | refine blk_drew ?_ | refine blk_alloc ?_ _)); exact BK202.out) hb2) (by decide)); have n7_ := Aside0.mk (Ne.symm (IsS55.ne_blk hi (blk_below (g := gb202) (o := .cells #[.int .u64 a3_0, .int .u64 a3_1] 24 (0, 0)) (by (with_reducible repeat (first | refine blk_drewN ?_ _ | refine blk_drew ?_ | refine blk_alloc ?_ _)); exact BK202.out) hb2) (by decide))); clear BK201; clear BK202; clear HB; have BK201 := n0_; have BK202 := n1_; have HB := n2_; have HI209 := n3_; have NB209_201 := n4_; have NB201_209 := n5_; have NB209_202 := n6_; have NB202_209 := n7_; clear n0_ n1_ n2_ n3_ n4_ n5_ n6_ n7_; (try clear hb); (try clear hb2); (try clear hk); (try clear hi); have hnb17 := NB202_209.out; have hnc17 := NB209_202.out; have hcz18_0 : w16.cell? ⟨gb202, 0, none⟩ = some (.int .u64 a3_0) := (blk_cell BK202.out 0).trans rfl; have hcz18_1 : w16.cell? ⟨gb202, 1, none⟩ = some (.int .u64 a3_1) := (blk_cell BK202.out 1).trans rfl; have hfz18_0 := blk_frozen BK202.out 0; have hfz18_1 := blk_frozen BK202.out 1) | ((with_reducible refine gate_callee (f := 8) rfl ?_); refine goesL_ (some 33) rfl rfl Try.func8 (by kernel_rfl) rfl #[.int .u64 a0, .int .u64 a1, .agg #[.int .u64 a3_0, .int .u64 a3_1]] rfl (by (try simp only [List.map_toArray, List.map_cons, List.map_nil]); first | done | rfl | (simp only [List.length_drop, List.length_take]; rfl)) ?_; (with_reducible refine (clock_New.calls a0 a1 a3_0 a3_1 t211 t212 t213 t214 t215 t217 w _ ?side1 A9.out).mono ?_); (case side1 => repeat (first | (with_reducible first | exact HB.out | apply below_alloc | apply pw_below_drewN | apply below_drew1 | refine below_set ?_ (IsS55.ge HI209.out) | refine below_set ?_ GE201.out | refine below_set ?_ GE202.out) | exact HB.out)); rintro e w19 ⟨g216, rfl, hi, hb, hb2, hnew⟩; refine ⟨_, rfl, ?_⟩; have n0_ := Aside0.mk ((Nat.ne_of_lt (Nat.lt_of_lt_of_le (IsS55.lt (show IsS55 w _ g209 t204 t205 t206 t207 t208 from by repeat (first | (with_reducible first | exact HI209.out | apply IsS55.alloc | apply IsS55.drewN | apply IsS55.drew | apply IsS55.set_0 | apply IsS55.set_1 | apply IsS55.set_2 | apply IsS55.set_3 | apply IsS55.set_4 | refine IsS55.far ?_ NB209_201.out _ | refine IsS55.far ?_ NB209_202.out _) | exact HI209.out))) hnew) : g209 ≠ g216)); have n1_ := Aside0.mk ((Nat.ne_of_gt (Nat.lt_of_lt_of_le (IsS55.lt (show IsS55 w _ g209 t204 t205 t206 t207 t208 from by repeat (first | (with_reducible first | exact HI209.out | apply IsS55.alloc | apply IsS55.drewN | apply IsS55.drew | apply IsS55.set_0 | apply IsS55.set_1 | apply IsS55.set_2 | apply IsS55.set_3 | apply IsS55.set_4 | refine IsS55.far ?_ NB209_201.out _ | refine IsS55.far ?_ NB209_202.out _) | exact HI209.out))) hnew) : g216 ≠ g209)); have n2_ := Aside0.mk (blk_below (g := gb201) (o := .cells #[.int .u64 a2_0, .int .u64 a2_1] 24 (0, 0)) (by (with_reducible repeat (first | refine blk_drewN ?_ _ | refine blk_drew ?_ | refine blk_alloc ?_ _)); exact BK201.out) hb2); have n3_ := Aside0.mk (blk_below (g := gb202) (o := .cells #[.int .u64 a3_0, .int .u64 a3_1] 24 (0, 0)) (by (with_reducible repeat (first | refine blk_drewN ?_ _ | refine blk_drew ?_ | refine blk_alloc ?_ _)); exact BK202.out) hb2); have n4_ := Aside0.mk (IsS55.below (by repeat (first | (with_reducible first | exact HI209.out | apply IsS55.alloc | apply IsS55.drewN | apply IsS55.drew | apply IsS55.set_0 | apply IsS55.set_1 | apply IsS55.set_2 | apply IsS55.set_3 | apply IsS55.set_4 | refine IsS55.far ?_ NB209_201.out _ | refine IsS55.far ?_ NB209_202.out _) | exact HI209.out)) hb2); have n5_ := Aside0.mk (hb); have n6_ := Aside0.mk (hi); have n7_ := Aside0.mk (IsS55.ne_blk hi (blk_below (g := gb201) (o := .cells #[.int .u64 a2_0, .int .u64 a2_1] 24 (0, 0)) (by (with_reducible repeat (first | refine blk_drewN ?_ _ | refine blk_drew ?_ | refine blk_alloc ?_ _)); exact BK201.out) hb2) (by decide)); have n8_ := Aside0.mk (Ne.symm (IsS55.ne_blk hi (blk_below (g := gb201) (o := .cells #[.int .u64 a2_0, .int .u64 a2_1] 24 (0, 0)) (by (with_reducible repeat (first | refine blk_drewN ?_ _ | refine blk_drew ?_ | refine blk_alloc ?_ _)); exact BK201.out) hb2) (by decide))); have n9_ := Aside0.mk (IsS55.ne_blk hi (blk_below (g := gb202) (o := .cells #[.int .u64 a3_0, .int .u64 a3_1] 24 (0, 0)) (by (with_reducible repeat (first | refine blk_drewN ?_ _ | refine blk_drew ?_ | refine blk_alloc ?_ _)); exact BK202.out) hb2) (by decide)); have n10_ := Aside0.mk (Ne.symm (IsS55.ne_blk hi (blk_below (g := gb202) (o := .cells #[.int .u64 a3_0, .int .u64 a3_1] 24 (0, 0)) (by (with_reducible repeat (first | refine blk_drewN ?_ _ | refine blk_drew ?_ | refine blk_alloc ?_ _)); exact BK202.out) hb2) (by decide))); clear BK201; clear BK202; clear HI209; clear HB; have NB209_216 := n0_; have NB216_209 := n1_; have BK201 := n2_; have BK202 := n3_; have HI209 := n4_; have HB := n5_; have HI216 := n6_; have NB216_201 := n7_; have NB201_216 := n8_; have NB216_202 := n9_; have NB202_216 := n10_; clear n0_ n1_ n2_ n3_ n4_ n5_ n6_ n7_ n8_ n9_ n10_; (try clear hb); (try clear hb2); (try clear hk); (try clear hi)))
    (try simp only [Act.put, List.setIfInBounds_toArray, List.set_cons_zero, List.set_cons_succ])
    go_cut [75] (fun v75 wc => ∃ (kq : Nat) (x75_9 : Bool), v75 = .bool x75_9 ∧ Aside0 (tiklaw22_ClockSpeeds.j0 kq a0 a1 l4 x75_9 a2_0 a2_1 t204 t205 t206 t207 t208 t211 t212 t213 t214 t215 = some r) ∧ Aside0 (kq ≤ k) ∧ Aside0 (wc.heap[gb201]? = some (.cells #[.int .u64 a2_0, .int .u64 a2_1] 24 (0, 0))) ∧ Aside0 (wc.heap[gb202]? = some (.cells #[.int .u64 a3_0, .int .u64 a3_1] 24 (0, 0))) ∧ Aside0 (IsS55 w wc g209 t204 t205 t206 t207 t208) ∧ Aside0 (IsS55 w wc g216 t211 t212 t213 t214 t215) ∧ Aside0 (Below w.heap.size w wc))
    case first =>
      have H := HC10.out
      clear HC10
      have H1 : (if t210 = 0 then (if t217 = 0 then (if (l4.length : Int) > 200 then (tiklaw22_ClockSpeeds.j0 k a0 a1 l4 true a2_0 a2_1 t204 t205 t206 t207 t208 t211 t212 t213 t214 t215) else (if a0 > 1125899906842624 then (tiklaw22_ClockSpeeds.j0 k a0 a1 l4 true a2_0 a2_1 t204 t205 t206 t207 t208 t211 t212 t213 t214 t215) else (if a1 > 1125899906842624 then (tiklaw22_ClockSpeeds.j0 k a0 a1 l4 true a2_0 a2_1 t204 t205 t206 t207 t208 t211 t212 t213 t214 t215) else (tiklaw22_ClockSpeeds.j0 k a0 a1 l4 (decide ((IntKind.u64.wrap (a2_0 * a3_1)) < (IntKind.u64.wrap (a3_0 * a2_1)))) a2_0 a2_1 t204 t205 t206 t207 t208 t211 t212 t213 t214 t215)))) else (tiklaw22_ClockSpeeds.j0 k a0 a1 l4 true a2_0 a2_1 t204 t205 t206 t207 t208 t211 t212 t213 t214 t215)) else (tiklaw22_ClockSpeeds.j0 k a0 a1 l4 true a2_0 a2_1 t204 t205 t206 t207 t208 t211 t212 t213 t214 t215)) = some r := by rw [if_neg (show ¬ (false = true) by decide)] at H; exact H
      clear H
      have H := H1
      clear H1
      by_cases c20 : t210 = 0
      · rw [if_pos c20] at H
        have c20b0 : (t210 == 0) = true := beq_iff_eq.mpr c20
        have c20b1 : (t210 != 0) = false := bne_eq_false_iff_eq.mpr c20
        clear c20
        (first | rw [c20b0] | (simp only [i64_w, i32_w]; rw [c20b0]) | skip)
        by_cases c21 : t217 = 0
        · rw [if_pos c21] at H
          have c21b0 : (t217 == 0) = true := beq_iff_eq.mpr c21
          have c21b1 : (t217 != 0) = false := bne_eq_false_iff_eq.mpr c21
          clear c21
          by_cases c22 : (l4.length : Int) > 200
          · rw [if_pos c22] at H
            have c22b0 : decide (200 < (l4.length : Int)) = true := decide_eq_true c22
            have c22b1 : decide (200 < l4.length) = true := decide_eq_true (by omega)
            clear c22
            have H' := Aside0.mk H
            clear H
            go_wp2
            go_meet
            case rel => exact ⟨_, (true), (by first | rfl | (simp; done) | (simp [*]; done)), H', ⟨by first | omega | exact Nat.le_refl _⟩, ⟨by (with_reducible repeat (first | refine blk_drewN ?_ _ | refine blk_drew ?_ | refine blk_alloc ?_ _)); exact BK201.out⟩, ⟨by (with_reducible repeat (first | refine blk_drewN ?_ _ | refine blk_drew ?_ | refine blk_alloc ?_ _)); exact BK202.out⟩, ⟨by repeat (first | (with_reducible first | exact HI209.out | apply IsS55.alloc | apply IsS55.drewN | apply IsS55.drew | apply IsS55.set_0 | apply IsS55.set_1 | apply IsS55.set_2 | apply IsS55.set_3 | apply IsS55.set_4 | refine IsS55.far ?_ NB209_201.out _ | refine IsS55.far ?_ NB209_202.out _) | exact HI209.out)⟩, ⟨by repeat (first | (with_reducible first | exact HI216.out | apply IsS55.alloc | apply IsS55.drewN | apply IsS55.drew | apply IsS55.set_0 | apply IsS55.set_1 | apply IsS55.set_2 | apply IsS55.set_3 | apply IsS55.set_4 | refine IsS55.far ?_ NB216_201.out _ | refine IsS55.far ?_ NB216_202.out _) | exact HI216.out)⟩, ⟨by repeat (first | (with_reducible first | exact HB.out | apply below_alloc | apply pw_below_drewN | apply below_drew1 | refine below_set ?_ (IsS55.ge HI209.out) | refine below_set ?_ (IsS55.ge HI216.out) | refine below_set ?_ GE201.out | refine below_set ?_ GE202.out) | exact HB.out)⟩⟩
          · rw [if_neg c22] at H
            have c22b0 : decide (200 < (l4.length : Int)) = false := decide_eq_false c22
            have c22b1 : decide (200 < l4.length) = false := decide_eq_false (by omega)
            clear c22
            by_cases c23 : a0 > 1125899906842624
            · rw [if_pos c23] at H
              have c23b0 : decide (1125899906842624 < a0) = true := decide_eq_true c23
              clear c23
              have H' := Aside0.mk H
              clear H
              go_wp2
              go_meet
              case rel => exact ⟨_, (true), (by first | rfl | (simp; done) | (simp [*]; done)), H', ⟨by first | omega | exact Nat.le_refl _⟩, ⟨by (with_reducible repeat (first | refine blk_drewN ?_ _ | refine blk_drew ?_ | refine blk_alloc ?_ _)); exact BK201.out⟩, ⟨by (with_reducible repeat (first | refine blk_drewN ?_ _ | refine blk_drew ?_ | refine blk_alloc ?_ _)); exact BK202.out⟩, ⟨by repeat (first | (with_reducible first | exact HI209.out | apply IsS55.alloc | apply IsS55.drewN | apply IsS55.drew | apply IsS55.set_0 | apply IsS55.set_1 | apply IsS55.set_2 | apply IsS55.set_3 | apply IsS55.set_4 | refine IsS55.far ?_ NB209_201.out _ | refine IsS55.far ?_ NB209_202.out _) | exact HI209.out)⟩, ⟨by repeat (first | (with_reducible first | exact HI216.out | apply IsS55.alloc | apply IsS55.drewN | apply IsS55.drew | apply IsS55.set_0 | apply IsS55.set_1 | apply IsS55.set_2 | apply IsS55.set_3 | apply IsS55.set_4 | refine IsS55.far ?_ NB216_201.out _ | refine IsS55.far ?_ NB216_202.out _) | exact HI216.out)⟩, ⟨by repeat (first | (with_reducible first | exact HB.out | apply below_alloc | apply pw_below_drewN | apply below_drew1 | refine below_set ?_ (IsS55.ge HI209.out) | refine below_set ?_ (IsS55.ge HI216.out) | refine below_set ?_ GE201.out | refine below_set ?_ GE202.out) | exact HB.out)⟩⟩
            · rw [if_neg c23] at H
              have c23b0 : decide (1125899906842624 < a0) = false := decide_eq_false c23
              clear c23
              by_cases c24 : a1 > 1125899906842624
              · rw [if_pos c24] at H
                have c24b0 : decide (1125899906842624 < a1) = true := decide_eq_true c24
                clear c24
                have H' := Aside0.mk H
                clear H
                go_wp2
                go_meet
                case rel => exact ⟨_, (true), (by first | rfl | (simp; done) | (simp [*]; done)), H', ⟨by first | omega | exact Nat.le_refl _⟩, ⟨by (with_reducible repeat (first | refine blk_drewN ?_ _ | refine blk_drew ?_ | refine blk_alloc ?_ _)); exact BK201.out⟩, ⟨by (with_reducible repeat (first | refine blk_drewN ?_ _ | refine blk_drew ?_ | refine blk_alloc ?_ _)); exact BK202.out⟩, ⟨by repeat (first | (with_reducible first | exact HI209.out | apply IsS55.alloc | apply IsS55.drewN | apply IsS55.drew | apply IsS55.set_0 | apply IsS55.set_1 | apply IsS55.set_2 | apply IsS55.set_3 | apply IsS55.set_4 | refine IsS55.far ?_ NB209_201.out _ | refine IsS55.far ?_ NB209_202.out _) | exact HI209.out)⟩, ⟨by repeat (first | (with_reducible first | exact HI216.out | apply IsS55.alloc | apply IsS55.drewN | apply IsS55.drew | apply IsS55.set_0 | apply IsS55.set_1 | apply IsS55.set_2 | apply IsS55.set_3 | apply IsS55.set_4 | refine IsS55.far ?_ NB216_201.out _ | refine IsS55.far ?_ NB216_202.out _) | exact HI216.out)⟩, ⟨by repeat (first | (with_reducible first | exact HB.out | apply below_alloc | apply pw_below_drewN | apply below_drew1 | refine below_set ?_ (IsS55.ge HI209.out) | refine below_set ?_ (IsS55.ge HI216.out) | refine below_set ?_ GE201.out | refine below_set ?_ GE202.out) | exact HB.out)⟩⟩
              · rw [if_neg c24] at H
                have c24b0 : decide (1125899906842624 < a1) = false := decide_eq_false c24
                clear c24
                have H' := Aside0.mk H
                clear H
                have hnb25 := NB201_202.out
                have hnc25 := NB202_201.out
                have hnb26 := NB201_209.out
                have hnc26 := NB209_201.out
                have hnb27 := NB201_216.out
                have hnc27 := NB216_201.out
                have hcz28_0 : w19.cell? ⟨gb201, 0, none⟩ = some (.int .u64 a2_0) := (blk_cell BK201.out 0).trans rfl
                have hcz28_1 : w19.cell? ⟨gb201, 1, none⟩ = some (.int .u64 a2_1) := (blk_cell BK201.out 1).trans rfl
                have hfz28_0 := blk_frozen BK201.out 0
                have hfz28_1 := blk_frozen BK201.out 1
                have hnb29 := NB202_209.out
                have hnc29 := NB209_202.out
                have hnb30 := NB202_216.out
                have hnc30 := NB216_202.out
                have hcz31_0 : w19.cell? ⟨gb202, 0, none⟩ = some (.int .u64 a3_0) := (blk_cell BK202.out 0).trans rfl
                have hcz31_1 : w19.cell? ⟨gb202, 1, none⟩ = some (.int .u64 a3_1) := (blk_cell BK202.out 1).trans rfl
                have hfz31_0 := blk_frozen BK202.out 0
                have hfz31_1 := blk_frozen BK202.out 1
                go_wp2
                go_meet
                case rel => exact ⟨_, (decide ((IntKind.u64.wrap (a2_0 * a3_1)) < (IntKind.u64.wrap (a3_0 * a2_1)))), (by first | rfl | (simp; done) | (simp [*]; done)), H', ⟨by first | omega | exact Nat.le_refl _⟩, ⟨by (with_reducible repeat (first | refine blk_drewN ?_ _ | refine blk_drew ?_ | refine blk_alloc ?_ _)); exact BK201.out⟩, ⟨by (with_reducible repeat (first | refine blk_drewN ?_ _ | refine blk_drew ?_ | refine blk_alloc ?_ _)); exact BK202.out⟩, ⟨by repeat (first | (with_reducible first | exact HI209.out | apply IsS55.alloc | apply IsS55.drewN | apply IsS55.drew | apply IsS55.set_0 | apply IsS55.set_1 | apply IsS55.set_2 | apply IsS55.set_3 | apply IsS55.set_4 | refine IsS55.far ?_ NB209_201.out _ | refine IsS55.far ?_ NB209_202.out _) | exact HI209.out)⟩, ⟨by repeat (first | (with_reducible first | exact HI216.out | apply IsS55.alloc | apply IsS55.drewN | apply IsS55.drew | apply IsS55.set_0 | apply IsS55.set_1 | apply IsS55.set_2 | apply IsS55.set_3 | apply IsS55.set_4 | refine IsS55.far ?_ NB216_201.out _ | refine IsS55.far ?_ NB216_202.out _) | exact HI216.out)⟩, ⟨by repeat (first | (with_reducible first | exact HB.out | apply below_alloc | apply pw_below_drewN | apply below_drew1 | refine below_set ?_ (IsS55.ge HI209.out) | refine below_set ?_ (IsS55.ge HI216.out) | refine below_set ?_ GE201.out | refine below_set ?_ GE202.out) | exact HB.out)⟩⟩
        · rw [if_neg c21] at H
          have c21b0 : (t217 == 0) = false := beq_eq_false_iff_ne.mpr c21
          have c21b1 : (t217 != 0) = true := bne_iff_ne.mpr c21
          have H' := Aside0.mk H
          clear H
          go_wp2
          go_meet
          case rel => exact ⟨_, (true), (by first | rfl | (simp; done) | (simp [*]; done)), H', ⟨by first | omega | exact Nat.le_refl _⟩, ⟨by (with_reducible repeat (first | refine blk_drewN ?_ _ | refine blk_drew ?_ | refine blk_alloc ?_ _)); exact BK201.out⟩, ⟨by (with_reducible repeat (first | refine blk_drewN ?_ _ | refine blk_drew ?_ | refine blk_alloc ?_ _)); exact BK202.out⟩, ⟨by repeat (first | (with_reducible first | exact HI209.out | apply IsS55.alloc | apply IsS55.drewN | apply IsS55.drew | apply IsS55.set_0 | apply IsS55.set_1 | apply IsS55.set_2 | apply IsS55.set_3 | apply IsS55.set_4 | refine IsS55.far ?_ NB209_201.out _ | refine IsS55.far ?_ NB209_202.out _) | exact HI209.out)⟩, ⟨by repeat (first | (with_reducible first | exact HI216.out | apply IsS55.alloc | apply IsS55.drewN | apply IsS55.drew | apply IsS55.set_0 | apply IsS55.set_1 | apply IsS55.set_2 | apply IsS55.set_3 | apply IsS55.set_4 | refine IsS55.far ?_ NB216_201.out _ | refine IsS55.far ?_ NB216_202.out _) | exact HI216.out)⟩, ⟨by repeat (first | (with_reducible first | exact HB.out | apply below_alloc | apply pw_below_drewN | apply below_drew1 | refine below_set ?_ (IsS55.ge HI209.out) | refine below_set ?_ (IsS55.ge HI216.out) | refine below_set ?_ GE201.out | refine below_set ?_ GE202.out) | exact HB.out)⟩⟩
      · rw [if_neg c20] at H
        have c20b0 : (t210 == 0) = false := beq_eq_false_iff_ne.mpr c20
        have c20b1 : (t210 != 0) = true := bne_iff_ne.mpr c20
        (first | rw [c20b0] | (simp only [i64_w, i32_w]; rw [c20b0]) | skip)
        have H' := Aside0.mk H
        clear H
        go_wp2
        go_meet
        case rel => exact ⟨_, (true), (by first | rfl | (simp; done) | (simp [*]; done)), H', ⟨by first | omega | exact Nat.le_refl _⟩, ⟨by (with_reducible repeat (first | refine blk_drewN ?_ _ | refine blk_drew ?_ | refine blk_alloc ?_ _)); exact BK201.out⟩, ⟨by (with_reducible repeat (first | refine blk_drewN ?_ _ | refine blk_drew ?_ | refine blk_alloc ?_ _)); exact BK202.out⟩, ⟨by repeat (first | (with_reducible first | exact HI209.out | apply IsS55.alloc | apply IsS55.drewN | apply IsS55.drew | apply IsS55.set_0 | apply IsS55.set_1 | apply IsS55.set_2 | apply IsS55.set_3 | apply IsS55.set_4 | refine IsS55.far ?_ NB209_201.out _ | refine IsS55.far ?_ NB209_202.out _) | exact HI209.out)⟩, ⟨by repeat (first | (with_reducible first | exact HI216.out | apply IsS55.alloc | apply IsS55.drewN | apply IsS55.drew | apply IsS55.set_0 | apply IsS55.set_1 | apply IsS55.set_2 | apply IsS55.set_3 | apply IsS55.set_4 | refine IsS55.far ?_ NB216_201.out _ | refine IsS55.far ?_ NB216_202.out _) | exact HI216.out)⟩, ⟨by repeat (first | (with_reducible first | exact HB.out | apply below_alloc | apply pw_below_drewN | apply below_drew1 | refine below_set ?_ (IsS55.ge HI209.out) | refine below_set ?_ (IsS55.ge HI216.out) | refine below_set ?_ GE201.out | refine below_set ?_ GE202.out) | exact HB.out)⟩⟩
    case rest =>
      clear HC10
      try clear c1
      try clear c2
      try clear p2
      try clear c3
      try clear c4
      try clear c7
      try clear c8
      try clear c14
      try clear c17
      try clear c20
      try clear c20b0
      try clear c20b1
      try clear c21
      try clear c21b0
      try clear c21b1
      try clear c22
      try clear c22b0
      try clear c22b1
      try clear c23
      try clear c23b0
      try clear c24
      try clear c24b0
      try clear c25
      try clear c26
      try clear c27
      try clear c29
      try clear c30
      try clear hcz15_0
      try clear hcz15_1
      try clear hcz18_0
      try clear hcz18_1
      try clear hcz28_0
      try clear hcz28_1
      try clear hcz31_0
      try clear hcz31_1
      try clear hfz15_0
      try clear hfz15_1
      try clear hfz18_0
      try clear hfz18_1
      try clear hfz28_0
      try clear hfz28_1
      try clear hfz31_0
      try clear hfz31_1
      obtain ⟨kq, x75_9, rfl, HA, HJ9, BK201, BK202, HI209, HI216, HB⟩ := hcut
      cases kq with
      | zero => exact absurd HA.out (by simp [tiklaw22_ClockSpeeds.j0])
      | succ kj9 =>
        have H := HA.out
        clear HA
        simp only [tiklaw22_ClockSpeeds.j0] at H
        by_cases c32 : x75_9 = true
        · subst c32
          have H1 : ((tiklaw22_first.f).bind fun t218 => (some t218)) = some r := by rw [if_pos rfl] at H; exact H
          clear H
          have H := H1
          clear H1
          replace H := Option.bind_eq_some_iff.mp H
          obtain ⟨t218, A330, H⟩ := H
          replace H : (some t218) = some r := H
          have A33 := Aside0.mk A330
          clear A330
          obtain rfl := Option.some.inj H
          go_wp2_with (first | ((with_reducible refine gate_callee (f := 7) rfl ?_); refine goesL_ (some 76) rfl rfl Try.func7 (by kernel_rfl) rfl #[] rfl (by (try simp only [List.map_toArray, List.map_cons, List.map_nil]); first | done | rfl | (simp only [List.length_drop, List.length_take]; rfl)) ?_; (with_reducible refine (tiklaw22_first.calls  t218 _ A33.out).mono ?_); rintro e w34 ⟨rfl, hb⟩; refine ⟨_, rfl, ?_⟩; have n0_ := Aside0.mk (blk_below (g := gb201) (o := .cells #[.int .u64 a2_0, .int .u64 a2_1] 24 (0, 0)) (by (with_reducible repeat (first | refine blk_drewN ?_ _ | refine blk_drew ?_ | refine blk_alloc ?_ _)); exact BK201.out) hb); have n1_ := Aside0.mk (blk_below (g := gb202) (o := .cells #[.int .u64 a3_0, .int .u64 a3_1] 24 (0, 0)) (by (with_reducible repeat (first | refine blk_drewN ?_ _ | refine blk_drew ?_ | refine blk_alloc ?_ _)); exact BK202.out) hb); have n2_ := Aside0.mk (IsS55.below (by repeat (first | (with_reducible first | exact HI209.out | apply IsS55.alloc | apply IsS55.drewN | apply IsS55.drew | apply IsS55.set_0 | apply IsS55.set_1 | apply IsS55.set_2 | apply IsS55.set_3 | apply IsS55.set_4 | refine IsS55.far ?_ NB209_201.out _ | refine IsS55.far ?_ NB209_202.out _) | exact HI209.out)) hb); have n3_ := Aside0.mk (IsS55.below (by repeat (first | (with_reducible first | exact HI216.out | apply IsS55.alloc | apply IsS55.drewN | apply IsS55.drew | apply IsS55.set_0 | apply IsS55.set_1 | apply IsS55.set_2 | apply IsS55.set_3 | apply IsS55.set_4 | refine IsS55.far ?_ NB216_201.out _ | refine IsS55.far ?_ NB216_202.out _) | exact HI216.out)) hb); have n4_ := Aside0.mk (below_step (by repeat (first | (with_reducible first | exact HB.out | apply below_alloc | apply pw_below_drewN | apply below_drew1 | refine below_set ?_ (IsS55.ge HI209.out) | refine below_set ?_ (IsS55.ge HI216.out) | refine below_set ?_ GE201.out | refine below_set ?_ GE202.out) | exact HB.out)) hb); clear BK201; clear BK202; clear HI209; clear HI216; clear HB; have BK201 := n0_; have BK202 := n1_; have HI209 := n2_; have HI216 := n3_; have HB := n4_; clear n0_ n1_ n2_ n3_ n4_; (try clear hb); (try clear hb2); (try clear hk); (try clear hi)))
          go_ret
          exact ⟨by first | rfl | (simp [errW_none, errW_some] <;> rfl) | (simp [*, errW_none, errW_some] <;> rfl), by repeat (first | (with_reducible first | exact HB.out | apply below_alloc | apply pw_below_drewN | apply below_drew1 | refine below_set ?_ (IsS55.ge HI209.out) | refine below_set ?_ (IsS55.ge HI216.out) | refine below_set ?_ GE201.out | refine below_set ?_ GE202.out) | exact HB.out)⟩
        · replace c32 := Bool.eq_false_iff.mpr c32
          subst c32
          have H1 : (tiklaw22_ClockSpeeds.l0 kj9 a0 a1 l4 a0 0 a2_0 a2_1 t204 t205 t206 t207 t208 t211 t212 t213 t214 t215) = some r := by rw [if_neg (show ¬ (false = true) by decide)] at H; exact H
          clear H
          have H := H1
          clear H1
          have H' := Aside0.mk H
          clear H
          go_wp2
          go_loopg [15, 16] kj9 (fun kq v15 v16 w' => ∃ (x15_2 : Int) (x16_2 : Int) (x210000_2 : Int) (x210001_2 : Int) (x210002_2 : Int) (x210003_2 : Int) (x210004_2 : Int) (x217000_2 : Int) (x217001_2 : Int) (x217002_2 : Int) (x217003_2 : Int) (x217004_2 : Int), v15 = .int .u64 x15_2 ∧ v16 = .int .i64 x16_2 ∧ Aside0 (tiklaw22_ClockSpeeds.l0 kq a0 a1 l4 x15_2 x16_2 a2_0 a2_1 x210000_2 x210001_2 x210002_2 x210003_2 x210004_2 x217000_2 x217001_2 x217002_2 x217003_2 x217004_2 = some r) ∧ Aside0 (kq ≤ kj9) ∧ Aside0 (w'.heap[gb201]? = some (.cells #[.int .u64 a2_0, .int .u64 a2_1] 24 (0, 0))) ∧ Aside0 (w'.heap[gb202]? = some (.cells #[.int .u64 a3_0, .int .u64 a3_1] 24 (0, 0))) ∧ Aside0 (IsS55 w w' g209 x210000_2 x210001_2 x210002_2 x210003_2 x210004_2) ∧ Aside0 (IsS55 w w' g216 x217000_2 x217001_2 x217002_2 x217003_2 x217004_2) ∧ Aside0 (Below w.heap.size w w'))
          case atStart => exact ⟨(a0), (0), (t204), (t205), (t206), (t207), (t208), (t211), (t212), (t213), (t214), (t215), (by first | rfl | (simp; done) | (simp [*]; done)), (by first | rfl | (simp; done) | (simp [*]; done)), H', ⟨Nat.le_refl _⟩, ⟨by (with_reducible repeat (first | refine blk_drewN ?_ _ | refine blk_drew ?_ | refine blk_alloc ?_ _)); exact BK201.out⟩, ⟨by (with_reducible repeat (first | refine blk_drewN ?_ _ | refine blk_drew ?_ | refine blk_alloc ?_ _)); exact BK202.out⟩, ⟨by repeat (first | (with_reducible first | exact HI209.out | apply IsS55.alloc | apply IsS55.drewN | apply IsS55.drew | apply IsS55.set_0 | apply IsS55.set_1 | apply IsS55.set_2 | apply IsS55.set_3 | apply IsS55.set_4 | refine IsS55.far ?_ NB209_201.out _ | refine IsS55.far ?_ NB209_202.out _) | exact HI209.out)⟩, ⟨by repeat (first | (with_reducible first | exact HI216.out | apply IsS55.alloc | apply IsS55.drewN | apply IsS55.drew | apply IsS55.set_0 | apply IsS55.set_1 | apply IsS55.set_2 | apply IsS55.set_3 | apply IsS55.set_4 | refine IsS55.far ?_ NB216_201.out _ | refine IsS55.far ?_ NB216_202.out _) | exact HI216.out)⟩, ⟨by repeat (first | (with_reducible first | exact HB.out | apply below_alloc | apply pw_below_drewN | apply below_drew1 | refine below_set ?_ (IsS55.ge HI209.out) | refine below_set ?_ (IsS55.ge HI216.out) | refine below_set ?_ GE201.out | refine below_set ?_ GE202.out) | exact HB.out)⟩⟩
          case round =>
            clear H'
            try clear c1
            try clear c2
            try clear p2
            try clear c3
            try clear c4
            try clear c7
            try clear c8
            try clear c14
            try clear c17
            try clear c20
            try clear c20b0
            try clear c20b1
            try clear c21
            try clear c21b0
            try clear c21b1
            try clear c22
            try clear c22b0
            try clear c22b1
            try clear c23
            try clear c23b0
            try clear c24
            try clear c24b0
            try clear c25
            try clear c26
            try clear c27
            try clear c29
            try clear c30
            try clear c32
            try clear hcz15_0
            try clear hcz15_1
            try clear hcz18_0
            try clear hcz18_1
            try clear hcz28_0
            try clear hcz28_1
            try clear hcz31_0
            try clear hcz31_1
            try clear hfz15_0
            try clear hfz15_1
            try clear hfz18_0
            try clear hfz18_1
            try clear hfz28_0
            try clear hfz28_1
            try clear hfz31_0
            try clear hfz31_1
            try clear p2
            obtain ⟨x15_2, x16_2, x210000_2, x210001_2, x210002_2, x210003_2, x210004_2, x217000_2, x217001_2, x217002_2, x217003_2, x217004_2, rfl, rfl, HA, HK2, BK201, BK202, HI209, HI216, HB⟩ := hrel
            cases gk with
            | zero => exact absurd HA.out (by simp [tiklaw22_ClockSpeeds.l0])
            | succ k2 =>
              have H := HA.out
              clear HA
              simp only [tiklaw22_ClockSpeeds.l0] at H
              by_cases c35 : x16_2 < (l4.length : Int)
              · rw [if_pos c35] at H
                have c35b0 : decide (x16_2 < (l4.length : Int)) = true := decide_eq_true c35
                clear c35
                by_cases c36 : 0 ≤ x16_2
                · rw [if_pos c36] at H
                  have c36b0 : decide (0 ≤ x16_2) = true := decide_eq_true c36
                  clear c36
                  by_cases c37 : (rd l4 x16_2) > 1048576
                  · rw [if_pos c37] at H
                    have c37b0 : decide (1048576 < (rd l4 x16_2)) = true := decide_eq_true c37
                    clear c37
                    replace H := Option.bind_eq_some_iff.mp H
                    obtain ⟨t220, A380, H⟩ := H
                    replace H : (some t220) = some r := H
                    have A38 := Aside0.mk A380
                    clear A380
                    obtain rfl := Option.some.inj H
                    have p219 : 0 ≤ (x16_2 : Int) := of_decide_eq_true (by first | (with_reducible assumption) | assumption)
                    have q219 : x16_2 < (l4.length : Int) := of_decide_eq_true (by first | (with_reducible assumption) | assumption)
                    obtain ⟨ad219, e219, hx219_0⟩ := Kd.at_int HR4.out x16_2 p219 q219
                    cases e219
                    replace hx219_0 := (HB.out.cell (World.block_lt_of_cell? w _ hx219_0)).trans hx219_0
                    replace p219 := eq_true p219
                    replace q219 := eq_true q219
                    go_wp2_with (first | ((with_reducible refine gate_callee (f := 7) rfl ?_); refine goesL_ (some 89) rfl rfl Try.func7 (by kernel_rfl) rfl #[] rfl (by (try simp only [List.map_toArray, List.map_cons, List.map_nil]); first | done | rfl | (simp only [List.length_drop, List.length_take]; rfl)) ?_; (with_reducible refine (tiklaw22_first.calls  t220 _ A38.out).mono ?_); rintro e w39 ⟨rfl, hb⟩; refine ⟨_, rfl, ?_⟩; have n0_ := Aside0.mk (blk_below (g := gb201) (o := .cells #[.int .u64 a2_0, .int .u64 a2_1] 24 (0, 0)) (by (with_reducible repeat (first | refine blk_drewN ?_ _ | refine blk_drew ?_ | refine blk_alloc ?_ _)); exact BK201.out) hb); have n1_ := Aside0.mk (blk_below (g := gb202) (o := .cells #[.int .u64 a3_0, .int .u64 a3_1] 24 (0, 0)) (by (with_reducible repeat (first | refine blk_drewN ?_ _ | refine blk_drew ?_ | refine blk_alloc ?_ _)); exact BK202.out) hb); have n2_ := Aside0.mk (IsS55.below (by repeat (first | (with_reducible first | exact HI209.out | apply IsS55.alloc | apply IsS55.drewN | apply IsS55.drew | apply IsS55.set_0 | apply IsS55.set_1 | apply IsS55.set_2 | apply IsS55.set_3 | apply IsS55.set_4 | refine IsS55.far ?_ NB209_201.out _ | refine IsS55.far ?_ NB209_202.out _) | exact HI209.out)) hb); have n3_ := Aside0.mk (IsS55.below (by repeat (first | (with_reducible first | exact HI216.out | apply IsS55.alloc | apply IsS55.drewN | apply IsS55.drew | apply IsS55.set_0 | apply IsS55.set_1 | apply IsS55.set_2 | apply IsS55.set_3 | apply IsS55.set_4 | refine IsS55.far ?_ NB216_201.out _ | refine IsS55.far ?_ NB216_202.out _) | exact HI216.out)) hb); have n4_ := Aside0.mk (below_step (by repeat (first | (with_reducible first | exact HB.out | apply below_alloc | apply pw_below_drewN | apply below_drew1 | refine below_set ?_ (IsS55.ge HI209.out) | refine below_set ?_ (IsS55.ge HI216.out) | refine below_set ?_ GE201.out | refine below_set ?_ GE202.out) | exact HB.out)) hb); clear BK201; clear BK202; clear HI209; clear HI216; clear HB; have BK201 := n0_; have BK202 := n1_; have HI209 := n2_; have HI216 := n3_; have HB := n4_; clear n0_ n1_ n2_ n3_ n4_; (try clear hb); (try clear hb2); (try clear hk); (try clear hi)))
                    go_ret
                    exact ⟨by first | rfl | (simp [errW_none, errW_some] <;> rfl) | (simp [*, errW_none, errW_some] <;> rfl), by repeat (first | (with_reducible first | exact HB.out | apply below_alloc | apply pw_below_drewN | apply below_drew1 | refine below_set ?_ (IsS55.ge HI209.out) | refine below_set ?_ (IsS55.ge HI216.out) | refine below_set ?_ GE201.out | refine below_set ?_ GE202.out) | exact HB.out)⟩
                  · rw [if_neg c37] at H
                    have c37b0 : decide (1048576 < (rd l4 x16_2)) = false := decide_eq_false c37
                    clear c37
                    replace H := Option.bind_eq_some_iff.mp H
                    obtain ⟨⟨t222, t223, t224, t225, t226, t227⟩, A400, H⟩ := H
                    replace H : ((clock_Clock_Go.f x217000_2 x217001_2 x217002_2 x217003_2 x217004_2 (IntKind.u64.wrap (x15_2 + (rd l4 x16_2)))).bind fun bt228 => (if t222 < bt228.1 then (some false) else (tiklaw22_ClockSpeeds.l0 k2 a0 a1 l4 (IntKind.u64.wrap (x15_2 + (rd l4 x16_2))) (wrap64 (x16_2 + 1)) a2_0 a2_1 t223 t224 t225 t226 t227 bt228.2.1 bt228.2.2.1 bt228.2.2.2.1 bt228.2.2.2.2.1 bt228.2.2.2.2.2))) = some r := H
                    have A40 := Aside0.mk A400
                    clear A400
                    replace H := Option.bind_eq_some_iff.mp H
                    obtain ⟨⟨t228, t229, t230, t231, t232, t233⟩, A410, H⟩ := H
                    replace H : (if t222 < t228 then (some false) else (tiklaw22_ClockSpeeds.l0 k2 a0 a1 l4 (IntKind.u64.wrap (x15_2 + (rd l4 x16_2))) (wrap64 (x16_2 + 1)) a2_0 a2_1 t223 t224 t225 t226 t227 t229 t230 t231 t232 t233)) = some r := H
                    have A41 := Aside0.mk A410
                    clear A410
                    by_cases c42 : t222 < t228
                    · rw [if_pos c42] at H
                      have c42b0 : decide (t222 < t228) = true := decide_eq_true c42
                      clear c42
                      exact absurd ((Option.some.inj H).trans hr_.out) (by simp)
                    · rw [if_neg c42] at H
                      have c42b0 : decide (t222 < t228) = false := decide_eq_false c42
                      clear c42
                      have H' := Aside0.mk H
                      clear H
                      have p219 : 0 ≤ (x16_2 : Int) := of_decide_eq_true (by first | (with_reducible assumption) | assumption)
                      have q219 : x16_2 < (l4.length : Int) := of_decide_eq_true (by first | (with_reducible assumption) | assumption)
                      obtain ⟨ad219, e219, hx219_0⟩ := Kd.at_int HR4.out x16_2 p219 q219
                      cases e219
                      replace hx219_0 := (HB.out.cell (World.block_lt_of_cell? w _ hx219_0)).trans hx219_0
                      replace p219 := eq_true p219
                      replace q219 := eq_true q219
                      have p221 : 0 ≤ (x16_2 : Int) := of_decide_eq_true (by first | (with_reducible assumption) | assumption)
                      have q221 : x16_2 < (l4.length : Int) := of_decide_eq_true (by first | (with_reducible assumption) | assumption)
                      obtain ⟨ad221, e221, hx221_0⟩ := Kd.at_int HR4.out x16_2 p221 q221
                      obtain rfl : ad219 = ad221 := (by injection e221)
                      replace hx221_0 := (HB.out.cell (World.block_lt_of_cell? w _ hx221_0)).trans hx221_0
                      replace p221 := eq_true p221
                      replace q221 := eq_true q221
                      go_wp2_with (first | ((with_reducible refine gate_callee (f := 10) rfl ?_); refine goesL_ (some 98) rfl rfl Try.func10 (by kernel_rfl) rfl #[.pointer (some ⟨g209, 0, none⟩), .int .u64 (IntKind.u64.wrap (x15_2 + (rd l4 x16_2)))] rfl (by (try simp only [List.map_toArray, List.map_cons, List.map_nil]); first | done | rfl | (simp only [List.length_drop, List.length_take]; rfl)) ?_; (with_reducible refine (clock_Clock_Go.calls g209 x210000_2 x210001_2 x210002_2 x210003_2 x210004_2 (IntKind.u64.wrap (x15_2 + (rd l4 x16_2))) t222 t223 t224 t225 t226 t227 w _ ?side1 ?side2 A40.out).mono ?_); (case side1 => repeat (first | (with_reducible first | exact HI209.out | apply IsS55.alloc | apply IsS55.drewN | apply IsS55.drew | apply IsS55.set_0 | apply IsS55.set_1 | apply IsS55.set_2 | apply IsS55.set_3 | apply IsS55.set_4 | refine IsS55.far ?_ NB209_201.out _ | refine IsS55.far ?_ NB209_202.out _) | exact HI209.out)); (case side2 => repeat (first | (with_reducible first | exact HB.out | apply below_alloc | apply pw_below_drewN | apply below_drew1 | refine below_set ?_ (IsS55.ge HI209.out) | refine below_set ?_ (IsS55.ge HI216.out) | refine below_set ?_ GE201.out | refine below_set ?_ GE202.out) | exact HB.out)); rintro e w43 ⟨rfl, hi, hb, hk⟩; refine ⟨_, rfl, ?_⟩; have n0_ := Aside0.mk (KeepBut.blk hk (g' := gb201) (o := .cells #[.int .u64 a2_0, .int .u64 a2_1] 24 (0, 0)) (by (with_reducible repeat (first | refine blk_drewN ?_ _ | refine blk_drew ?_ | refine blk_alloc ?_ _)); exact BK201.out) NB201_209.out (by simp)); have n1_ := Aside0.mk (KeepBut.blk hk (g' := gb202) (o := .cells #[.int .u64 a3_0, .int .u64 a3_1] 24 (0, 0)) (by (with_reducible repeat (first | refine blk_drewN ?_ _ | refine blk_drew ?_ | refine blk_alloc ?_ _)); exact BK202.out) NB202_209.out (by simp)); have n2_ := Aside0.mk (IsS55.kept (show IsS55 w _ g216 x217000_2 x217001_2 x217002_2 x217003_2 x217004_2 from by repeat (first | (with_reducible first | exact HI216.out | apply IsS55.alloc | apply IsS55.drewN | apply IsS55.drew | apply IsS55.set_0 | apply IsS55.set_1 | apply IsS55.set_2 | apply IsS55.set_3 | apply IsS55.set_4 | refine IsS55.far ?_ NB216_201.out _ | refine IsS55.far ?_ NB216_202.out _) | exact HI216.out)) ⟨hk.1, fun i_ hi_ hs_ => hk.2 i_ hi_ hs_ (by simp)⟩ (NB216_209.out)); have n3_ := Aside0.mk (hb); have n4_ := Aside0.mk (hi); clear BK201; clear BK202; clear HI216; clear HB; clear HI209; have BK201 := n0_; have BK202 := n1_; have HI216 := n2_; have HB := n3_; have HI209 := n4_; clear n0_ n1_ n2_ n3_ n4_; (try clear hb); (try clear hb2); (try clear hk); (try clear hi)) | ((with_reducible refine gate_callee (f := 10) rfl ?_); refine goesL_ (some 101) rfl rfl Try.func10 (by kernel_rfl) rfl #[.pointer (some ⟨g216, 0, none⟩), .int .u64 (IntKind.u64.wrap (x15_2 + (rd l4 x16_2)))] rfl (by (try simp only [List.map_toArray, List.map_cons, List.map_nil]); first | done | rfl | (simp only [List.length_drop, List.length_take]; rfl)) ?_; (with_reducible refine (clock_Clock_Go.calls g216 x217000_2 x217001_2 x217002_2 x217003_2 x217004_2 (IntKind.u64.wrap (x15_2 + (rd l4 x16_2))) t228 t229 t230 t231 t232 t233 w _ ?side1 ?side2 A41.out).mono ?_); (case side1 => repeat (first | (with_reducible first | exact HI216.out | apply IsS55.alloc | apply IsS55.drewN | apply IsS55.drew | apply IsS55.set_0 | apply IsS55.set_1 | apply IsS55.set_2 | apply IsS55.set_3 | apply IsS55.set_4 | refine IsS55.far ?_ NB216_201.out _ | refine IsS55.far ?_ NB216_202.out _) | exact HI216.out)); (case side2 => repeat (first | (with_reducible first | exact HB.out | apply below_alloc | apply pw_below_drewN | apply below_drew1 | refine below_set ?_ (IsS55.ge HI209.out) | refine below_set ?_ (IsS55.ge HI216.out) | refine below_set ?_ GE201.out | refine below_set ?_ GE202.out) | exact HB.out)); rintro e w44 ⟨rfl, hi, hb, hk⟩; refine ⟨_, rfl, ?_⟩; have n0_ := Aside0.mk (KeepBut.blk hk (g' := gb201) (o := .cells #[.int .u64 a2_0, .int .u64 a2_1] 24 (0, 0)) (by (with_reducible repeat (first | refine blk_drewN ?_ _ | refine blk_drew ?_ | refine blk_alloc ?_ _)); exact BK201.out) NB201_216.out (by simp)); have n1_ := Aside0.mk (KeepBut.blk hk (g' := gb202) (o := .cells #[.int .u64 a3_0, .int .u64 a3_1] 24 (0, 0)) (by (with_reducible repeat (first | refine blk_drewN ?_ _ | refine blk_drew ?_ | refine blk_alloc ?_ _)); exact BK202.out) NB202_216.out (by simp)); have n2_ := Aside0.mk (IsS55.kept (show IsS55 w _ g209 t223 t224 t225 t226 t227 from by repeat (first | (with_reducible first | exact HI209.out | apply IsS55.alloc | apply IsS55.drewN | apply IsS55.drew | apply IsS55.set_0 | apply IsS55.set_1 | apply IsS55.set_2 | apply IsS55.set_3 | apply IsS55.set_4 | refine IsS55.far ?_ NB209_201.out _ | refine IsS55.far ?_ NB209_202.out _) | exact HI209.out)) ⟨hk.1, fun i_ hi_ hs_ => hk.2 i_ hi_ hs_ (by simp)⟩ (NB209_216.out)); have n3_ := Aside0.mk (hb); have n4_ := Aside0.mk (hi); clear BK201; clear BK202; clear HI209; clear HB; clear HI216; have BK201 := n0_; have BK202 := n1_; have HI209 := n2_; have HB := n3_; have HI216 := n4_; clear n0_ n1_ n2_ n3_ n4_; (try clear hb); (try clear hb2); (try clear hk); (try clear hi)))
                      go_roundg k2
                      case measure => have := HJ9.out; have := HK2.out; omega
                      case rel => exact ⟨(IntKind.u64.wrap (x15_2 + (rd l4 x16_2))), (wrap64 (x16_2 + 1)), (t223), (t224), (t225), (t226), (t227), (t229), (t230), (t231), (t232), (t233), (by first | rfl | (simp; done) | (simp [*]; done)), (by first | rfl | (simp; done) | (simp [*]; done)), H', ⟨by have := HJ9.out; have := HK2.out; omega⟩, ⟨by (with_reducible repeat (first | refine blk_drewN ?_ _ | refine blk_drew ?_ | refine blk_alloc ?_ _)); exact BK201.out⟩, ⟨by (with_reducible repeat (first | refine blk_drewN ?_ _ | refine blk_drew ?_ | refine blk_alloc ?_ _)); exact BK202.out⟩, ⟨by repeat (first | (with_reducible first | exact HI209.out | apply IsS55.alloc | apply IsS55.drewN | apply IsS55.drew | apply IsS55.set_0 | apply IsS55.set_1 | apply IsS55.set_2 | apply IsS55.set_3 | apply IsS55.set_4 | refine IsS55.far ?_ NB209_201.out _ | refine IsS55.far ?_ NB209_202.out _) | exact HI209.out)⟩, ⟨by repeat (first | (with_reducible first | exact HI216.out | apply IsS55.alloc | apply IsS55.drewN | apply IsS55.drew | apply IsS55.set_0 | apply IsS55.set_1 | apply IsS55.set_2 | apply IsS55.set_3 | apply IsS55.set_4 | refine IsS55.far ?_ NB216_201.out _ | refine IsS55.far ?_ NB216_202.out _) | exact HI216.out)⟩, ⟨by repeat (first | (with_reducible first | exact HB.out | apply below_alloc | apply pw_below_drewN | apply below_drew1 | refine below_set ?_ (IsS55.ge HI209.out) | refine below_set ?_ (IsS55.ge HI216.out) | refine below_set ?_ GE201.out | refine below_set ?_ GE202.out) | exact HB.out)⟩⟩
                · rw [if_neg c36] at H
                  exact absurd H (by simp)
              · rw [if_neg c35] at H
                have c35b0 : decide (x16_2 < (l4.length : Int)) = false := decide_eq_false c35
                clear c35
                replace H := Option.bind_eq_some_iff.mp H
                obtain ⟨⟨t234, t235, t236⟩, A450, H⟩ := H
                replace H : ((tiklaw22_first.f).bind fun t237 => (if t237 = true then (if t236 = 0 then ((clock_Clock_At.f x210000_2 x210001_2 x210002_2 x210003_2 x210004_2 x15_2).bind fun bt238 => (if bt238.1 = (IntKind.u64.wrap (a1 + t234)) then ((clock_Clock_Rest.f bt238.2.1 bt238.2.2.1 bt238.2.2.2.1 bt238.2.2.2.2.1 bt238.2.2.2.2.2).bind fun bt244 => (some (bt244.1 == t235))) else (some false))) else (some false)) else (some false))) = some r := H
                have A45 := Aside0.mk A450
                clear A450
                replace H := Option.bind_eq_some_iff.mp H
                obtain ⟨t237, A460, H⟩ := H
                replace H : (if t237 = true then (if t236 = 0 then ((clock_Clock_At.f x210000_2 x210001_2 x210002_2 x210003_2 x210004_2 x15_2).bind fun bt238 => (if bt238.1 = (IntKind.u64.wrap (a1 + t234)) then ((clock_Clock_Rest.f bt238.2.1 bt238.2.2.1 bt238.2.2.2.1 bt238.2.2.2.2.1 bt238.2.2.2.2.2).bind fun bt244 => (some (bt244.1 == t235))) else (some false))) else (some false)) else (some false)) = some r := H
                have A46 := Aside0.mk A460
                clear A460
                by_cases c47 : t237 = true
                · subst c47
                  have H1 : (if t236 = 0 then ((clock_Clock_At.f x210000_2 x210001_2 x210002_2 x210003_2 x210004_2 x15_2).bind fun bt238 => (if bt238.1 = (IntKind.u64.wrap (a1 + t234)) then ((clock_Clock_Rest.f bt238.2.1 bt238.2.2.1 bt238.2.2.2.1 bt238.2.2.2.2.1 bt238.2.2.2.2.2).bind fun bt244 => (some (bt244.1 == t235))) else (some false))) else (some false)) = some r := by rw [if_pos rfl] at H; exact H
                  clear H
                  have H := H1
                  clear H1
                  by_cases c48 : t236 = 0
                  · rw [if_pos c48] at H
                    have c48b0 : (t236 == 0) = true := beq_iff_eq.mpr c48
                    have c48b1 : (t236 != 0) = false := bne_eq_false_iff_eq.mpr c48
                    clear c48
                    replace H := Option.bind_eq_some_iff.mp H
                    obtain ⟨⟨t238, t239, t240, t241, t242, t243⟩, A490, H⟩ := H
                    replace H : (if t238 = (IntKind.u64.wrap (a1 + t234)) then ((clock_Clock_Rest.f t239 t240 t241 t242 t243).bind fun bt244 => (some (bt244.1 == t235))) else (some false)) = some r := H
                    have A49 := Aside0.mk A490
                    clear A490
                    by_cases c50 : t238 = (IntKind.u64.wrap (a1 + t234))
                    · rw [if_pos c50] at H
                      have c50b0 : (t238 == (IntKind.u64.wrap (a1 + t234))) = true := beq_iff_eq.mpr c50
                      have c50b1 : (t238 != (IntKind.u64.wrap (a1 + t234))) = false := bne_eq_false_iff_eq.mpr c50
                      clear c50
                      replace H := Option.bind_eq_some_iff.mp H
                      obtain ⟨⟨t244, t245, t246, t247, t248, t249⟩, A510, H⟩ := H
                      replace H : (some (t244 == t235)) = some r := H
                      have A51 := Aside0.mk A510
                      clear A510
                      obtain rfl := Option.some.inj H
                      have hnb52 := NB201_202.out
                      have hnc52 := NB202_201.out
                      have hnb53 := NB201_209.out
                      have hnc53 := NB209_201.out
                      have hnb54 := NB201_216.out
                      have hnc54 := NB216_201.out
                      have hcz55_0 : wr.cell? ⟨gb201, 0, none⟩ = some (.int .u64 a2_0) := (blk_cell BK201.out 0).trans rfl
                      have hcz55_1 : wr.cell? ⟨gb201, 1, none⟩ = some (.int .u64 a2_1) := (blk_cell BK201.out 1).trans rfl
                      have hfz55_0 := blk_frozen BK201.out 0
                      have hfz55_1 := blk_frozen BK201.out 1
                      go_wp2_with (first | ((with_reducible refine gate_callee (f := 12) rfl ?_); refine goesL_ (some 108) rfl rfl Try.func12 (by kernel_rfl) rfl #[.int .u64 (IntKind.u64.wrap (x15_2 - a0)), .int .u64 0, .agg #[.int .u64 a2_0, .int .u64 a2_1]] rfl (by (try simp only [List.map_toArray, List.map_cons, List.map_nil]); first | done | rfl | (simp only [List.length_drop, List.length_take]; rfl)) ?_; (with_reducible refine (rate_Scale.calls (IntKind.u64.wrap (x15_2 - a0)) 0 a2_0 a2_1 t234 t235 t236 _ A45.out).mono ?_); rintro e w56 ⟨rfl, hb⟩; refine ⟨_, rfl, ?_⟩; have n0_ := Aside0.mk (blk_below (g := gb201) (o := .cells #[.int .u64 a2_0, .int .u64 a2_1] 24 (0, 0)) (by (with_reducible repeat (first | refine blk_drewN ?_ _ | refine blk_drew ?_ | refine blk_alloc ?_ _)); exact BK201.out) hb); have n1_ := Aside0.mk (blk_below (g := gb202) (o := .cells #[.int .u64 a3_0, .int .u64 a3_1] 24 (0, 0)) (by (with_reducible repeat (first | refine blk_drewN ?_ _ | refine blk_drew ?_ | refine blk_alloc ?_ _)); exact BK202.out) hb); have n2_ := Aside0.mk (IsS55.below (by repeat (first | (with_reducible first | exact HI209.out | apply IsS55.alloc | apply IsS55.drewN | apply IsS55.drew | apply IsS55.set_0 | apply IsS55.set_1 | apply IsS55.set_2 | apply IsS55.set_3 | apply IsS55.set_4 | refine IsS55.far ?_ NB209_201.out _ | refine IsS55.far ?_ NB209_202.out _) | exact HI209.out)) hb); have n3_ := Aside0.mk (IsS55.below (by repeat (first | (with_reducible first | exact HI216.out | apply IsS55.alloc | apply IsS55.drewN | apply IsS55.drew | apply IsS55.set_0 | apply IsS55.set_1 | apply IsS55.set_2 | apply IsS55.set_3 | apply IsS55.set_4 | refine IsS55.far ?_ NB216_201.out _ | refine IsS55.far ?_ NB216_202.out _) | exact HI216.out)) hb); have n4_ := Aside0.mk (below_step (by repeat (first | (with_reducible first | exact HB.out | apply below_alloc | apply pw_below_drewN | apply below_drew1 | refine below_set ?_ (IsS55.ge HI209.out) | refine below_set ?_ (IsS55.ge HI216.out) | refine below_set ?_ GE201.out | refine below_set ?_ GE202.out) | exact HB.out)) hb); clear BK201; clear BK202; clear HI209; clear HI216; clear HB; have BK201 := n0_; have BK202 := n1_; have HI209 := n2_; have HI216 := n3_; have HB := n4_; clear n0_ n1_ n2_ n3_ n4_; (try clear hb); (try clear hb2); (try clear hk); (try clear hi)) | ((with_reducible refine gate_callee (f := 7) rfl ?_); refine goesL_ (some 112) rfl rfl Try.func7 (by kernel_rfl) rfl #[] rfl (by (try simp only [List.map_toArray, List.map_cons, List.map_nil]); first | done | rfl | (simp only [List.length_drop, List.length_take]; rfl)) ?_; (with_reducible refine (tiklaw22_first.calls  true _ A46.out).mono ?_); rintro e w57 ⟨rfl, hb⟩; refine ⟨_, rfl, ?_⟩; have n0_ := Aside0.mk (blk_below (g := gb201) (o := .cells #[.int .u64 a2_0, .int .u64 a2_1] 24 (0, 0)) (by (with_reducible repeat (first | refine blk_drewN ?_ _ | refine blk_drew ?_ | refine blk_alloc ?_ _)); exact BK201.out) hb); have n1_ := Aside0.mk (blk_below (g := gb202) (o := .cells #[.int .u64 a3_0, .int .u64 a3_1] 24 (0, 0)) (by (with_reducible repeat (first | refine blk_drewN ?_ _ | refine blk_drew ?_ | refine blk_alloc ?_ _)); exact BK202.out) hb); have n2_ := Aside0.mk (IsS55.below (by repeat (first | (with_reducible first | exact HI209.out | apply IsS55.alloc | apply IsS55.drewN | apply IsS55.drew | apply IsS55.set_0 | apply IsS55.set_1 | apply IsS55.set_2 | apply IsS55.set_3 | apply IsS55.set_4 | refine IsS55.far ?_ NB209_201.out _ | refine IsS55.far ?_ NB209_202.out _) | exact HI209.out)) hb); have n3_ := Aside0.mk (IsS55.below (by repeat (first | (with_reducible first | exact HI216.out | apply IsS55.alloc | apply IsS55.drewN | apply IsS55.drew | apply IsS55.set_0 | apply IsS55.set_1 | apply IsS55.set_2 | apply IsS55.set_3 | apply IsS55.set_4 | refine IsS55.far ?_ NB216_201.out _ | refine IsS55.far ?_ NB216_202.out _) | exact HI216.out)) hb); have n4_ := Aside0.mk (below_step (by repeat (first | (with_reducible first | exact HB.out | apply below_alloc | apply pw_below_drewN | apply below_drew1 | refine below_set ?_ (IsS55.ge HI209.out) | refine below_set ?_ (IsS55.ge HI216.out) | refine below_set ?_ GE201.out | refine below_set ?_ GE202.out) | exact HB.out)) hb); clear BK201; clear BK202; clear HI209; clear HI216; clear HB; have BK201 := n0_; have BK202 := n1_; have HI209 := n2_; have HI216 := n3_; have HB := n4_; clear n0_ n1_ n2_ n3_ n4_; (try clear hb); (try clear hb2); (try clear hk); (try clear hi)) | (go_at_call 9; (with_reducible refine (clock_Clock_At.calls g209 x210000_2 x210001_2 x210002_2 x210003_2 x210004_2 x15_2 t238 t239 t240 t241 t242 t243 w _ ?side1 ?side2 A49.out).mono ?_); (case side1 => repeat (first | (with_reducible first | exact HI209.out | apply IsS55.alloc | apply IsS55.drewN | apply IsS55.drew | apply IsS55.set_0 | apply IsS55.set_1 | apply IsS55.set_2 | apply IsS55.set_3 | apply IsS55.set_4 | refine IsS55.far ?_ NB209_201.out _ | refine IsS55.far ?_ NB209_202.out _) | exact HI209.out)); (case side2 => repeat (first | (with_reducible first | exact HB.out | apply below_alloc | apply pw_below_drewN | apply below_drew1 | refine below_set ?_ (IsS55.ge HI209.out) | refine below_set ?_ (IsS55.ge HI216.out) | refine below_set ?_ GE201.out | refine below_set ?_ GE202.out) | exact HB.out)); rintro e w58 ⟨rfl, hi, hb, hk⟩; have n0_ := Aside0.mk (KeepBut.blk hk (g' := gb201) (o := .cells #[.int .u64 a2_0, .int .u64 a2_1] 24 (0, 0)) (by (with_reducible repeat (first | refine blk_drewN ?_ _ | refine blk_drew ?_ | refine blk_alloc ?_ _)); exact BK201.out) NB201_209.out (by simp)); have n1_ := Aside0.mk (KeepBut.blk hk (g' := gb202) (o := .cells #[.int .u64 a3_0, .int .u64 a3_1] 24 (0, 0)) (by (with_reducible repeat (first | refine blk_drewN ?_ _ | refine blk_drew ?_ | refine blk_alloc ?_ _)); exact BK202.out) NB202_209.out (by simp)); have n2_ := Aside0.mk (IsS55.kept (show IsS55 w _ g216 x217000_2 x217001_2 x217002_2 x217003_2 x217004_2 from by repeat (first | (with_reducible first | exact HI216.out | apply IsS55.alloc | apply IsS55.drewN | apply IsS55.drew | apply IsS55.set_0 | apply IsS55.set_1 | apply IsS55.set_2 | apply IsS55.set_3 | apply IsS55.set_4 | refine IsS55.far ?_ NB216_201.out _ | refine IsS55.far ?_ NB216_202.out _) | exact HI216.out)) ⟨hk.1, fun i_ hi_ hs_ => hk.2 i_ hi_ hs_ (by simp)⟩ (NB216_209.out)); have n3_ := Aside0.mk (hb); have n4_ := Aside0.mk (hi); clear BK201; clear BK202; clear HI216; clear HB; clear HI209; have BK201 := n0_; have BK202 := n1_; have HI216 := n2_; have HB := n3_; have HI209 := n4_; clear n0_ n1_ n2_ n3_ n4_; (try clear hb); (try clear hb2); (try clear hk); (try clear hi)) | (go_at_call 11; (with_reducible refine (clock_Clock_Rest.calls g209 t239 t240 t241 t242 t243 t244 t245 t246 t247 t248 t249 w _ ?side1 ?side2 A51.out).mono ?_); (case side1 => repeat (first | (with_reducible first | exact HI209.out | apply IsS55.alloc | apply IsS55.drewN | apply IsS55.drew | apply IsS55.set_0 | apply IsS55.set_1 | apply IsS55.set_2 | apply IsS55.set_3 | apply IsS55.set_4 | refine IsS55.far ?_ NB209_201.out _ | refine IsS55.far ?_ NB209_202.out _) | exact HI209.out)); (case side2 => repeat (first | (with_reducible first | exact HB.out | apply below_alloc | apply pw_below_drewN | apply below_drew1 | refine below_set ?_ (IsS55.ge HI209.out) | refine below_set ?_ (IsS55.ge HI216.out) | refine below_set ?_ GE201.out | refine below_set ?_ GE202.out) | exact HB.out)); rintro e w59 ⟨rfl, hi, hb, hk⟩; have n0_ := Aside0.mk (KeepBut.blk hk (g' := gb201) (o := .cells #[.int .u64 a2_0, .int .u64 a2_1] 24 (0, 0)) (by (with_reducible repeat (first | refine blk_drewN ?_ _ | refine blk_drew ?_ | refine blk_alloc ?_ _)); exact BK201.out) NB201_209.out (by simp)); have n1_ := Aside0.mk (KeepBut.blk hk (g' := gb202) (o := .cells #[.int .u64 a3_0, .int .u64 a3_1] 24 (0, 0)) (by (with_reducible repeat (first | refine blk_drewN ?_ _ | refine blk_drew ?_ | refine blk_alloc ?_ _)); exact BK202.out) NB202_209.out (by simp)); have n2_ := Aside0.mk (IsS55.kept (show IsS55 w _ g216 x217000_2 x217001_2 x217002_2 x217003_2 x217004_2 from by repeat (first | (with_reducible first | exact HI216.out | apply IsS55.alloc | apply IsS55.drewN | apply IsS55.drew | apply IsS55.set_0 | apply IsS55.set_1 | apply IsS55.set_2 | apply IsS55.set_3 | apply IsS55.set_4 | refine IsS55.far ?_ NB216_201.out _ | refine IsS55.far ?_ NB216_202.out _) | exact HI216.out)) ⟨hk.1, fun i_ hi_ hs_ => hk.2 i_ hi_ hs_ (by simp)⟩ (NB216_209.out)); have n3_ := Aside0.mk (hb); have n4_ := Aside0.mk (hi); clear BK201; clear BK202; clear HI216; clear HB; clear HI209; have BK201 := n0_; have BK202 := n1_; have HI216 := n2_; have HB := n3_; have HI209 := n4_; clear n0_ n1_ n2_ n3_ n4_; (try clear hb); (try clear hb2); (try clear hk); (try clear hi)))
                      go_ret
                      exact ⟨by first | rfl | (simp [errW_none, errW_some] <;> rfl) | (simp [*, errW_none, errW_some] <;> rfl), by repeat (first | (with_reducible first | exact HB.out | apply below_alloc | apply pw_below_drewN | apply below_drew1 | refine below_set ?_ (IsS55.ge HI209.out) | refine below_set ?_ (IsS55.ge HI216.out) | refine below_set ?_ GE201.out | refine below_set ?_ GE202.out) | exact HB.out)⟩
                    · rw [if_neg c50] at H
                      have c50b0 : (t238 == (IntKind.u64.wrap (a1 + t234))) = false := beq_eq_false_iff_ne.mpr c50
                      have c50b1 : (t238 != (IntKind.u64.wrap (a1 + t234))) = true := bne_iff_ne.mpr c50
                      exact absurd ((Option.some.inj H).trans hr_.out) (by simp)
                  · rw [if_neg c48] at H
                    have c48b0 : (t236 == 0) = false := beq_eq_false_iff_ne.mpr c48
                    have c48b1 : (t236 != 0) = true := bne_iff_ne.mpr c48
                    exact absurd ((Option.some.inj H).trans hr_.out) (by simp)
                · replace c47 := Bool.eq_false_iff.mpr c47
                  subst c47
                  have H1 : (some false) = some r := by rw [if_neg (show ¬ (false = true) by decide)] at H; exact H
                  clear H
                  have H := H1
                  clear H1
                  exact absurd ((Option.some.inj H).trans hr_.out) (by simp)
  · replace c7 := Bool.eq_false_iff.mpr c7
    subst c7
    have H1 : (some false) = some r := by rw [if_neg (show ¬ (false = true) by decide)] at H; exact H
    clear H
    have H := H1
    clear H1
    exact absurd ((Option.some.inj H).trans hr_.out) (by simp)

end Go.Proofs.Ytcfndcjbgalnpaa.PL
