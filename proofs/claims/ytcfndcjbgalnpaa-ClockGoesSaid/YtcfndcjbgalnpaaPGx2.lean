-- written for this claim by mp.py (this repo), with the kit's print; checked by the kernel alone
import Derived.Test.YtcfndcjbgalnpaaPGx0
import Derived.Test.YtcfndcjbgalnpaaPGx1
namespace Go.Proofs.Ytcfndcjbgalnpaa.PG
open Go.RowKit Go.Proofs.YtcfndcjbgalnpaaW.PrintWords Go.Proofs.YtcfndcjbgalnpaaW.PrintLast Go.Proofs.YtcfndcjbgalnpaaW.PrintMore
attribute [local go_sem] max2_int min2_int max_two min_two max_three min_three max_four min_four   -- for this text's walks alone
open Go.Proofs.Ytcfndcjbgalnpaa.Hand
open Go.Proofs.Ytcfndcjbgalnpaa.PA
open Go.Proofs.Ytcfndcjbgalnpaa.PB
open Go.Proofs.Ytcfndcjbgalnpaa.PC
open Go.Proofs.Ytcfndcjbgalnpaa.PD
open Go.Proofs.Ytcfndcjbgalnpaa.PF
set_option linter.unusedVariables false
set_option linter.unusedSimpArgs false

attribute [local go_sem high] eqA45
/-! ### tiklaw22_ClockGoes: function 6 -/
mutual
def tiklaw22_ClockGoes.j0 : Nat → List (S48) → Bool → Int → Int → Int → Int → Int → Int → Int → Int → Int → Int → Option (Bool)
  | 0, _, _, _, _, _, _, _, _, _, _, _, _ => none
  | k + 1, x3, x46, x110000, x110001, x110002, x110003, x110004, x119000, x119001, x119002, x119003, x119004 => if x46 = true then (some false) else (tiklaw22_ClockGoes.l0 k x3 0 x110000 x110001 x110002 x110003 x110004 x119000 x119001 x119002 x119003 x119004)
def tiklaw22_ClockGoes.l0 : Nat → List (S48) → Int → Int → Int → Int → Int → Int → Int → Int → Int → Int → Int → Option (Bool)
  | 0, _, _, _, _, _, _, _, _, _, _, _, _ => none
  | k + 1, x3, x13, x110000, x110001, x110002, x110003, x110004, x119000, x119001, x119002, x119003, x119004 => if true = true then (tiklaw22_ClockGoes.j2 k x3 x13 (decide (x13 < (x3.length : Int))) x110000 x110001 x110002 x110003 x110004 x119000 x119001 x119002 x119003 x119004) else (tiklaw22_ClockGoes.j2 k x3 x13 false x110000 x110001 x110002 x110003 x110004 x119000 x119001 x119002 x119003 x119004)
def tiklaw22_ClockGoes.j2 : Nat → List (S48) → Int → Bool → Int → Int → Int → Int → Int → Int → Int → Int → Int → Int → Option (Bool)
  | 0, _, _, _, _, _, _, _, _, _, _, _, _, _ => none
  | k + 1, x3, x13, x54, x110000, x110001, x110002, x110003, x110004, x119000, x119001, x119002, x119003, x119004 => if x54 = true then (if 0 ≤ x13 then (if x13 < (x3.length : Int) then (if ((rd_T48 x3 x13).f0) = 0 then ((clock_Clock_Go.f x110000 x110001 x110002 x110003 x110004 ((rd_T48 x3 x13).f1)).bind fun bt123 => ((tikref22_Clock_Go.f k x119000 x119001 x119002 x119003 x119004 ((rd_T48 x3 x13).f1)).bind fun bt129 => (tiklaw22_ClockGoes.j3 k x3 x13 (bt123.1 == bt129.1) bt123.2.1 bt123.2.2.1 bt123.2.2.2.1 bt123.2.2.2.2.1 bt123.2.2.2.2.2 bt129.2.1 bt129.2.2.1 bt129.2.2.2.1 bt129.2.2.2.2.1 bt129.2.2.2.2.2 ((rd_T48 x3 x13).f0) ((rd_T48 x3 x13).f1) ((rd_T48 x3 x13).f2) ((rd_T48 x3 x13).f3.f0) ((rd_T48 x3 x13).f3.f1)))) else (if ((rd_T48 x3 x13).f0) = 1 then ((clock_Clock_Set.f x110000 x110001 x110002 x110003 x110004 ((rd_T48 x3 x13).f1) ((rd_T48 x3 x13).f2)).bind fun bt135 => ((tikref22_Clock_Set.f x119000 x119001 x119002 x119003 x119004 ((rd_T48 x3 x13).f1) ((rd_T48 x3 x13).f2)).bind fun bt141 => (tiklaw22_ClockGoes.j3 k x3 x13 (bt135.1 == bt141.1) bt135.2.1 bt135.2.2.1 bt135.2.2.2.1 bt135.2.2.2.2.1 bt135.2.2.2.2.2 bt141.2.1 bt141.2.2.1 bt141.2.2.2.1 bt141.2.2.2.2.1 bt141.2.2.2.2.2 ((rd_T48 x3 x13).f0) ((rd_T48 x3 x13).f1) ((rd_T48 x3 x13).f2) ((rd_T48 x3 x13).f3.f0) ((rd_T48 x3 x13).f3.f1)))) else (if ((rd_T48 x3 x13).f0) = 2 then ((clock_Clock_Turn.f k x110000 x110001 x110002 x110003 x110004 ((rd_T48 x3 x13).f1) ((rd_T48 x3 x13).f3.f0) ((rd_T48 x3 x13).f3.f1)).bind fun bt147 => ((tiklaw22_plain.f ((rd_T48 x3 x13).f3.f0) ((rd_T48 x3 x13).f3.f1)).bind fun bt153 => ((tikref22_Clock_Turn.f k x119000 x119001 x119002 x119003 x119004 ((rd_T48 x3 x13).f1) bt153.1 bt153.2).bind fun bt155 => (tiklaw22_ClockGoes.j3 k x3 x13 (bt147.1 == bt155.1) bt147.2.1 bt147.2.2.1 bt147.2.2.2.1 bt147.2.2.2.2.1 bt147.2.2.2.2.2 bt155.2.1 bt155.2.2.1 bt155.2.2.2.1 bt155.2.2.2.2.1 bt155.2.2.2.2.2 ((rd_T48 x3 x13).f0) ((rd_T48 x3 x13).f1) ((rd_T48 x3 x13).f2) ((rd_T48 x3 x13).f3.f0) ((rd_T48 x3 x13).f3.f1))))) else (tiklaw22_ClockGoes.j3 k x3 x13 true x110000 x110001 x110002 x110003 x110004 x119000 x119001 x119002 x119003 x119004 ((rd_T48 x3 x13).f0) ((rd_T48 x3 x13).f1) ((rd_T48 x3 x13).f2) ((rd_T48 x3 x13).f3.f0) ((rd_T48 x3 x13).f3.f1))))) else (none)) else (none)) else ((tiklaw22_first.f).bind fun t120 => (some t120))
def tiklaw22_ClockGoes.j3 : Nat → List (S48) → Int → Bool → Int → Int → Int → Int → Int → Int → Int → Int → Int → Int → Int → Int → Int → Int → Int → Option (Bool)
  | 0, _, _, _, _, _, _, _, _, _, _, _, _, _, _, _, _, _, _ => none
  | k + 1, x3, x13, x15, x110000, x110001, x110002, x110003, x110004, x119000, x119001, x119002, x119003, x119004, x123000, x123001, x123002, x123003, x123004 => if x15 = true then ((clock_Clock_At.f x110000 x110001 x110002 x110003 x110004 x123001).bind fun bt161 => ((refAt.f k x119000 x119001 x119002 x119003 x119004 x123001).bind fun t167 => (if bt161.1 = t167 then ((clock_Clock_At.f bt161.2.1 bt161.2.2.1 bt161.2.2.2.1 bt161.2.2.2.2.1 bt161.2.2.2.2.2 x123002).bind fun bt168 => ((refAt.f k x119000 x119001 x119002 x119003 x119004 x123002).bind fun t174 => (if bt168.1 = t174 then ((clock_Clock_Rest.f bt168.2.1 bt168.2.2.1 bt168.2.2.2.1 bt168.2.2.2.2.1 bt168.2.2.2.2.2).bind fun bt175 => (if bt175.1 = x119002 then ((clock_Clock_Speed.f bt175.2.1 bt175.2.2.1 bt175.2.2.2.1 bt175.2.2.2.2.1 bt175.2.2.2.2.2).bind fun bt181 => ((tiklaw22_plain.f bt181.1 bt181.2.1).bind fun bt188 => (if (!(bt188.1 == x119003) || (!(bt188.2 == x119004))) = true then (some false) else (tiklaw22_ClockGoes.l0 k x3 (wrap64 (x13 + 1)) bt181.2.2.1 bt181.2.2.2.1 bt181.2.2.2.2.1 bt181.2.2.2.2.2.1 bt181.2.2.2.2.2.2 x119000 x119001 x119002 x119003 x119004)))) else (some false))) else (some false)))) else (some false)))) else (some false)
end
def tiklaw22_ClockGoes.f (k : Nat) (a0 : Int) (a1 : Int) (a2_0 : Int) (a2_1 : Int) (l3 : List (S48)) : Option (Bool) := (tiklaw22_first.f).bind fun t102 => (if t102 = true then (if (l3.length : Int) > 200 then ((tiklaw22_first.f).bind fun t103 => (some t103)) else ((clock_New.f a0 a1 a2_0 a2_1).bind fun bt104 => ((tiklaw22_plain.f a2_0 a2_1).bind fun bt111 => ((tikref22_NewClock.f a0 a1 bt111.1 bt111.2).bind fun bt113 => (if bt104.2.2.2.2.2 = bt113.2.2.2.2.2 then (tiklaw22_ClockGoes.j0 k l3 (false != false) bt104.1 bt104.2.1 bt104.2.2.1 bt104.2.2.2.1 bt104.2.2.2.2.1 bt113.1 bt113.2.1 bt113.2.2.1 bt113.2.2.2.1 bt113.2.2.2.2.1) else (tiklaw22_ClockGoes.j0 k l3 true bt104.1 bt104.2.1 bt104.2.2.1 bt104.2.2.2.1 bt104.2.2.2.2.1 bt113.1 bt113.2.1 bt113.2.2.1 bt113.2.2.2.1 bt113.2.2.2.2.1)))))) else (some false))
theorem tiklaw22_ClockGoes.mono_l : ∀ k, (∀ y0 y1 y2 y3 y4 y5 y6 y7 y8 y9 y10 y11, LeO (tiklaw22_ClockGoes.j0 k y0 y1 y2 y3 y4 y5 y6 y7 y8 y9 y10 y11) (tiklaw22_ClockGoes.j0 (k + 1) y0 y1 y2 y3 y4 y5 y6 y7 y8 y9 y10 y11)) ∧ (∀ y0 y1 y2 y3 y4 y5 y6 y7 y8 y9 y10 y11, LeO (tiklaw22_ClockGoes.l0 k y0 y1 y2 y3 y4 y5 y6 y7 y8 y9 y10 y11) (tiklaw22_ClockGoes.l0 (k + 1) y0 y1 y2 y3 y4 y5 y6 y7 y8 y9 y10 y11)) ∧ (∀ y0 y1 y2 y3 y4 y5 y6 y7 y8 y9 y10 y11 y12, LeO (tiklaw22_ClockGoes.j2 k y0 y1 y2 y3 y4 y5 y6 y7 y8 y9 y10 y11 y12) (tiklaw22_ClockGoes.j2 (k + 1) y0 y1 y2 y3 y4 y5 y6 y7 y8 y9 y10 y11 y12)) ∧ (∀ y0 y1 y2 y3 y4 y5 y6 y7 y8 y9 y10 y11 y12 y13 y14 y15 y16 y17, LeO (tiklaw22_ClockGoes.j3 k y0 y1 y2 y3 y4 y5 y6 y7 y8 y9 y10 y11 y12 y13 y14 y15 y16 y17) (tiklaw22_ClockGoes.j3 (k + 1) y0 y1 y2 y3 y4 y5 y6 y7 y8 y9 y10 y11 y12 y13 y14 y15 y16 y17))
  | 0 => ⟨fun _ _ _ _ _ _ _ _ _ _ _ _ r h => by simp [tiklaw22_ClockGoes.j0] at h, fun _ _ _ _ _ _ _ _ _ _ _ _ r h => by simp [tiklaw22_ClockGoes.l0] at h, fun _ _ _ _ _ _ _ _ _ _ _ _ _ r h => by simp [tiklaw22_ClockGoes.j2] at h, fun _ _ _ _ _ _ _ _ _ _ _ _ _ _ _ _ _ _ r h => by simp [tiklaw22_ClockGoes.j3] at h⟩
  | k + 1 => by
    obtain ⟨ih0, ih1, ih2, ih3⟩ := tiklaw22_ClockGoes.mono_l k
    refine ⟨?_, ?_, ?_, ?_⟩
    · intro y0 y1 y2 y3 y4 y5 y6 y7 y8 y9 y10 y11
      unfold tiklaw22_ClockGoes.j0
      repeat' first
      | (with_reducible exact ih0 _ _ _ _ _ _ _ _ _ _ _ _)
      | (with_reducible exact ih1 _ _ _ _ _ _ _ _ _ _ _ _)
      | (with_reducible exact ih2 _ _ _ _ _ _ _ _ _ _ _ _ _)
      | (with_reducible exact ih3 _ _ _ _ _ _ _ _ _ _ _ _ _ _ _ _ _ _)
      | (with_reducible exact clock_Clock_Turn.mono _ _ _ _ _ _ _ _ _)
      | (with_reducible exact refAt.mono _ _ _ _ _ _ _)
      | (with_reducible exact tikref22_Clock_Go.mono _ _ _ _ _ _ _)
      | (with_reducible exact tikref22_Clock_Turn.mono _ _ _ _ _ _ _ _ _)
      | (with_reducible exact LeO.refl _)
      | (with_reducible exact LeO.none _)
      | (with_reducible refine LeO.ite ?_ ?_)
      | (with_reducible refine LeO.bind ?_ (fun _ => ?_))
      | exact ih0 _ _ _ _ _ _ _ _ _ _ _ _
      | exact ih1 _ _ _ _ _ _ _ _ _ _ _ _
      | exact ih2 _ _ _ _ _ _ _ _ _ _ _ _ _
      | exact ih3 _ _ _ _ _ _ _ _ _ _ _ _ _ _ _ _ _ _
      | exact clock_Clock_Turn.mono _ _ _ _ _ _ _ _ _
      | exact refAt.mono _ _ _ _ _ _ _
      | exact tikref22_Clock_Go.mono _ _ _ _ _ _ _
      | exact tikref22_Clock_Turn.mono _ _ _ _ _ _ _ _ _
      | exact LeO.none _
      | refine LeO.ite ?_ ?_
      | refine LeO.bind ?_ (fun _ => ?_)
    · intro y0 y1 y2 y3 y4 y5 y6 y7 y8 y9 y10 y11
      unfold tiklaw22_ClockGoes.l0
      repeat' first
      | (with_reducible exact ih0 _ _ _ _ _ _ _ _ _ _ _ _)
      | (with_reducible exact ih1 _ _ _ _ _ _ _ _ _ _ _ _)
      | (with_reducible exact ih2 _ _ _ _ _ _ _ _ _ _ _ _ _)
      | (with_reducible exact ih3 _ _ _ _ _ _ _ _ _ _ _ _ _ _ _ _ _ _)
      | (with_reducible exact clock_Clock_Turn.mono _ _ _ _ _ _ _ _ _)
      | (with_reducible exact refAt.mono _ _ _ _ _ _ _)
      | (with_reducible exact tikref22_Clock_Go.mono _ _ _ _ _ _ _)
      | (with_reducible exact tikref22_Clock_Turn.mono _ _ _ _ _ _ _ _ _)
      | (with_reducible exact LeO.refl _)
      | (with_reducible exact LeO.none _)
      | (with_reducible refine LeO.ite ?_ ?_)
      | (with_reducible refine LeO.bind ?_ (fun _ => ?_))
      | exact ih0 _ _ _ _ _ _ _ _ _ _ _ _
      | exact ih1 _ _ _ _ _ _ _ _ _ _ _ _
      | exact ih2 _ _ _ _ _ _ _ _ _ _ _ _ _
      | exact ih3 _ _ _ _ _ _ _ _ _ _ _ _ _ _ _ _ _ _
      | exact clock_Clock_Turn.mono _ _ _ _ _ _ _ _ _
      | exact refAt.mono _ _ _ _ _ _ _
      | exact tikref22_Clock_Go.mono _ _ _ _ _ _ _
      | exact tikref22_Clock_Turn.mono _ _ _ _ _ _ _ _ _
      | exact LeO.none _
      | refine LeO.ite ?_ ?_
      | refine LeO.bind ?_ (fun _ => ?_)
    · intro y0 y1 y2 y3 y4 y5 y6 y7 y8 y9 y10 y11 y12
      unfold tiklaw22_ClockGoes.j2
      repeat' first
      | (with_reducible exact ih0 _ _ _ _ _ _ _ _ _ _ _ _)
      | (with_reducible exact ih1 _ _ _ _ _ _ _ _ _ _ _ _)
      | (with_reducible exact ih2 _ _ _ _ _ _ _ _ _ _ _ _ _)
      | (with_reducible exact ih3 _ _ _ _ _ _ _ _ _ _ _ _ _ _ _ _ _ _)
      | (with_reducible exact clock_Clock_Turn.mono _ _ _ _ _ _ _ _ _)
      | (with_reducible exact refAt.mono _ _ _ _ _ _ _)
      | (with_reducible exact tikref22_Clock_Go.mono _ _ _ _ _ _ _)
      | (with_reducible exact tikref22_Clock_Turn.mono _ _ _ _ _ _ _ _ _)
      | (with_reducible exact LeO.refl _)
      | (with_reducible exact LeO.none _)
      | (with_reducible refine LeO.ite ?_ ?_)
      | (with_reducible refine LeO.bind ?_ (fun _ => ?_))
      | exact ih0 _ _ _ _ _ _ _ _ _ _ _ _
      | exact ih1 _ _ _ _ _ _ _ _ _ _ _ _
      | exact ih2 _ _ _ _ _ _ _ _ _ _ _ _ _
      | exact ih3 _ _ _ _ _ _ _ _ _ _ _ _ _ _ _ _ _ _
      | exact clock_Clock_Turn.mono _ _ _ _ _ _ _ _ _
      | exact refAt.mono _ _ _ _ _ _ _
      | exact tikref22_Clock_Go.mono _ _ _ _ _ _ _
      | exact tikref22_Clock_Turn.mono _ _ _ _ _ _ _ _ _
      | exact LeO.none _
      | refine LeO.ite ?_ ?_
      | refine LeO.bind ?_ (fun _ => ?_)
    · intro y0 y1 y2 y3 y4 y5 y6 y7 y8 y9 y10 y11 y12 y13 y14 y15 y16 y17
      unfold tiklaw22_ClockGoes.j3
      repeat' first
      | (with_reducible exact ih0 _ _ _ _ _ _ _ _ _ _ _ _)
      | (with_reducible exact ih1 _ _ _ _ _ _ _ _ _ _ _ _)
      | (with_reducible exact ih2 _ _ _ _ _ _ _ _ _ _ _ _ _)
      | (with_reducible exact ih3 _ _ _ _ _ _ _ _ _ _ _ _ _ _ _ _ _ _)
      | (with_reducible exact clock_Clock_Turn.mono _ _ _ _ _ _ _ _ _)
      | (with_reducible exact refAt.mono _ _ _ _ _ _ _)
      | (with_reducible exact tikref22_Clock_Go.mono _ _ _ _ _ _ _)
      | (with_reducible exact tikref22_Clock_Turn.mono _ _ _ _ _ _ _ _ _)
      | (with_reducible exact LeO.refl _)
      | (with_reducible exact LeO.none _)
      | (with_reducible refine LeO.ite ?_ ?_)
      | (with_reducible refine LeO.bind ?_ (fun _ => ?_))
      | exact ih0 _ _ _ _ _ _ _ _ _ _ _ _
      | exact ih1 _ _ _ _ _ _ _ _ _ _ _ _
      | exact ih2 _ _ _ _ _ _ _ _ _ _ _ _ _
      | exact ih3 _ _ _ _ _ _ _ _ _ _ _ _ _ _ _ _ _ _
      | exact clock_Clock_Turn.mono _ _ _ _ _ _ _ _ _
      | exact refAt.mono _ _ _ _ _ _ _
      | exact tikref22_Clock_Go.mono _ _ _ _ _ _ _
      | exact tikref22_Clock_Turn.mono _ _ _ _ _ _ _ _ _
      | exact LeO.none _
      | refine LeO.ite ?_ ?_
      | refine LeO.bind ?_ (fun _ => ?_)
theorem tiklaw22_ClockGoes.mono : ∀ a0 a1 a2 a3 a4 k, LeO (tiklaw22_ClockGoes.f k a0 a1 a2 a3 a4) (tiklaw22_ClockGoes.f (k + 1) a0 a1 a2 a3 a4) := by
  intro a0 a1 a2 a3 a4 k
  obtain ⟨ih0, ih1, ih2, ih3⟩ := tiklaw22_ClockGoes.mono_l k
  unfold tiklaw22_ClockGoes.f
  repeat' first
      | (with_reducible exact ih0 _ _ _ _ _ _ _ _ _ _ _ _)
      | (with_reducible exact ih1 _ _ _ _ _ _ _ _ _ _ _ _)
      | (with_reducible exact ih2 _ _ _ _ _ _ _ _ _ _ _ _ _)
      | (with_reducible exact ih3 _ _ _ _ _ _ _ _ _ _ _ _ _ _ _ _ _ _)
      | (with_reducible exact clock_Clock_Turn.mono _ _ _ _ _ _ _ _ _)
      | (with_reducible exact refAt.mono _ _ _ _ _ _ _)
      | (with_reducible exact tikref22_Clock_Go.mono _ _ _ _ _ _ _)
      | (with_reducible exact tikref22_Clock_Turn.mono _ _ _ _ _ _ _ _ _)
      | (with_reducible exact LeO.refl _)
      | (with_reducible exact LeO.none _)
      | (with_reducible refine LeO.ite ?_ ?_)
      | (with_reducible refine LeO.bind ?_ (fun _ => ?_))
      | exact ih0 _ _ _ _ _ _ _ _ _ _ _ _
      | exact ih1 _ _ _ _ _ _ _ _ _ _ _ _
      | exact ih2 _ _ _ _ _ _ _ _ _ _ _ _ _
      | exact ih3 _ _ _ _ _ _ _ _ _ _ _ _ _ _ _ _ _ _
      | exact clock_Clock_Turn.mono _ _ _ _ _ _ _ _ _
      | exact refAt.mono _ _ _ _ _ _ _
      | exact tikref22_Clock_Go.mono _ _ _ _ _ _ _
      | exact tikref22_Clock_Turn.mono _ _ _ _ _ _ _ _ _
      | exact LeO.none _
      | refine LeO.ite ?_ ?_
      | refine LeO.bind ?_ (fun _ => ?_)
def tiklaw22_ClockGoes.T16 : Bool × List (List Nat × List Nat) := (true, [([], []), ([], []), ([1], [1]), ([0, 2], [0, 2]), ([], []), ([], []), ([5], [5]), ([4, 6, 3], [4, 6]), ([3, 7], [3, 7]), ([8, 7, 0, 1, 2, 3, 4, 5, 6, 7, 8], [8])])
def tiklaw22_ClockGoes.B16 : List Nat := [0, 0, 2, 7, 0, 0, 32, 127, 255, 511]
theorem tiklaw22_ClockGoes.tab16 : rtab .any (opsOf Try.f6 16) = tiklaw22_ClockGoes.T16 := by kernel_rfl
theorem tiklaw22_ClockGoes.bits16 : waitsOk tiklaw22_ClockGoes.T16.2 tiklaw22_ClockGoes.B16 = true := by kernel_rfl
def tiklaw22_ClockGoes.T18 : Bool × List (List Nat × List Nat) := (true, [([], []), ([], []), ([1], [1]), ([], []), ([3], [3]), ([0, 2, 4], [0, 2, 4]), ([], []), ([], []), ([7], [7]), ([], []), ([9], [9]), ([6, 8, 10, 5], [6, 8, 10]), ([5, 11], [5, 11]), ([12, 11, 0, 1, 2, 3, 4, 5, 6, 7, 8, 9, 10, 11, 12], [12])])
def tiklaw22_ClockGoes.B18 : List Nat := [0, 0, 2, 0, 8, 31, 0, 0, 128, 0, 512, 2047, 4095, 8191]
theorem tiklaw22_ClockGoes.tab18 : rtab .any (opsOf Try.f6 18) = tiklaw22_ClockGoes.T18 := by kernel_rfl
theorem tiklaw22_ClockGoes.bits18 : waitsOk tiklaw22_ClockGoes.T18.2 tiklaw22_ClockGoes.B18 = true := by kernel_rfl
def tiklaw22_ClockGoes.T20 : Bool × List (List Nat × List Nat) := (true, [([], []), ([], []), ([1], [1]), ([], []), ([3], [3]), ([0, 2, 4], [0, 2, 4]), ([], []), ([], []), ([7], [7]), ([], []), ([9], [9]), ([10, 5], [10]), ([6, 8, 11, 11], [6, 8, 11]), ([5, 12], [5, 12]), ([13, 12, 0, 1, 2, 3, 4, 5, 6, 7, 8, 9, 10, 11, 12, 13], [13])])
def tiklaw22_ClockGoes.B20 : List Nat := [0, 0, 2, 0, 8, 31, 0, 0, 128, 0, 512, 1599, 4095, 8191, 16383]
theorem tiklaw22_ClockGoes.tab20 : rtab .any (opsOf Try.f6 20) = tiklaw22_ClockGoes.T20 := by kernel_rfl
theorem tiklaw22_ClockGoes.bits20 : waitsOk tiklaw22_ClockGoes.T20.2 tiklaw22_ClockGoes.B20 = true := by kernel_rfl
def tiklaw22_ClockGoes.T21 : Bool × List (List Nat × List Nat) := (true, [([], []), ([0], [0]), ([1], [1]), ([2], [2]), ([2], [2]), ([4, 2], [2, 4]), ([3, 5, 2, 2], [2, 3, 5]), ([2], [2]), ([2], [2]), ([8, 2], [2, 8]), ([7, 9, 6, 2], [2, 7, 9]), ([6, 10, 2], [2, 6, 10]), ([2, 11], [2, 11]), ([12, 10], [12]), ([13], [13]), ([13], [13]), ([15, 13], [13, 15]), ([14, 16, 13, 13], [13, 14, 16]), ([13], [13]), ([13], [13]), ([19, 13], [13, 19]), ([18, 20, 17, 13], [13, 18, 20]), ([17, 21, 13], [13, 17, 21]), ([13, 22], [13, 22]), ([23, 21], [23]), ([24], [24]), ([25, 24, 24], [24, 25]), ([24], [24]), ([27, 24], [24, 27]), ([28, 24], [24, 28]), ([29, 24], [24, 29]), ([26, 30, 24], [24, 26, 30]), ([24, 31], [24, 31]), ([32, 26], [32]), ([33], [33]), ([34, 33, 33], [33, 34]), ([35, 35, 33], [33, 35]), ([33], [33]), ([37, 33], [33, 37]), ([38, 33], [33, 38]), ([39, 33], [33, 39]), ([36, 40, 33], [33, 36, 40]), ([33, 41], [33, 41])])
def tiklaw22_ClockGoes.B21 : List Nat := [0, 1, 3, 7, 7, 23, 63, 7, 7, 263, 1023, 2047, 4095, 8191, 16383, 16383, 49151, 131071, 16383, 16383, 540671, 2097151, 4194303, 8388607, 16777215, 33554431, 67108863, 33554431, 167772159, 436207615, 973078527, 2147483647, 4294967295, 8589934591, 17179869183, 34359738367, 68719476735, 17179869183, 154618822655, 429496729599, 979252543487, 2199023255551, 4398046511103]
theorem tiklaw22_ClockGoes.tab21 : rtab .any (opsOf Try.f6 21) = tiklaw22_ClockGoes.T21 := by kernel_rfl
theorem tiklaw22_ClockGoes.bits21 : waitsOk tiklaw22_ClockGoes.T21.2 tiklaw22_ClockGoes.B21 = true := by kernel_rfl
set_option maxHeartbeats 8000000 in
set_option maxRecDepth 100000 in
theorem tiklaw22_ClockGoes.calls (k : Nat) (a0 : Int) (a1 : Int) (a2_0 : Int) (a2_1 : Int) (A3 : Option Addr) (c3 : Nat) (l3 : List (S48)) (r : Bool) (w : World) (hr3 : Kd.C k48 w A3 l3.length l3) (hc3 : l3.length ≤ c3) (hr_ : Aside0 (r = true)) (h : tiklaw22_ClockGoes.f k a0 a1 a2_0 a2_1 l3 = some r) :
    Calls Try.prog 6 #[.int .u64 a0, .int .u64 a1, .agg #[.int .u64 a2_0, .int .u64 a2_1], .slice A3 l3.length c3] w fun e w' => e = .returned (.bool r) ∧ Below w.heap.size w w' := by
  have hu24 := Try.underlying24
  have hu48 := Try.underlying48
  have hu45 := Try.underlying45
  have HR3 := Aside0.mk hr3
  have HC3 := Aside0.mk hc3
  clear hr3 hc3
  have HB := Aside0.mk (Below.refl w.heap.size w)
  have H : ((tiklaw22_first.f).bind fun t102 => (if t102 = true then (if (l3.length : Int) > 200 then ((tiklaw22_first.f).bind fun t103 => (some t103)) else ((clock_New.f a0 a1 a2_0 a2_1).bind fun bt104 => ((tiklaw22_plain.f a2_0 a2_1).bind fun bt111 => ((tikref22_NewClock.f a0 a1 bt111.1 bt111.2).bind fun bt113 => (if bt104.2.2.2.2.2 = bt113.2.2.2.2.2 then (tiklaw22_ClockGoes.j0 k l3 (false != false) bt104.1 bt104.2.1 bt104.2.2.1 bt104.2.2.2.1 bt104.2.2.2.2.1 bt113.1 bt113.2.1 bt113.2.2.1 bt113.2.2.2.1 bt113.2.2.2.2.1) else (tiklaw22_ClockGoes.j0 k l3 true bt104.1 bt104.2.1 bt104.2.2.1 bt104.2.2.2.1 bt104.2.2.2.2.1 bt113.1 bt113.2.1 bt113.2.2.1 bt113.2.2.2.1 bt113.2.2.2.2.1)))))) else (some false))) = some r := h
  clear h
  replace H := Option.bind_eq_some_iff.mp H
  obtain ⟨t102, A50, H⟩ := H
  replace H : (if t102 = true then (if (l3.length : Int) > 200 then ((tiklaw22_first.f).bind fun t103 => (some t103)) else ((clock_New.f a0 a1 a2_0 a2_1).bind fun bt104 => ((tiklaw22_plain.f a2_0 a2_1).bind fun bt111 => ((tikref22_NewClock.f a0 a1 bt111.1 bt111.2).bind fun bt113 => (if bt104.2.2.2.2.2 = bt113.2.2.2.2.2 then (tiklaw22_ClockGoes.j0 k l3 (false != false) bt104.1 bt104.2.1 bt104.2.2.1 bt104.2.2.2.1 bt104.2.2.2.2.1 bt113.1 bt113.2.1 bt113.2.2.1 bt113.2.2.2.1 bt113.2.2.2.2.1) else (tiklaw22_ClockGoes.j0 k l3 true bt104.1 bt104.2.1 bt104.2.2.1 bt104.2.2.2.1 bt104.2.2.2.2.1 bt113.1 bt113.2.1 bt113.2.2.1 bt113.2.2.2.1 bt113.2.2.2.2.1)))))) else (some false)) = some r := H
  have A5 := Aside0.mk A50
  clear A50
  by_cases c6 : t102 = true
  · subst c6
    have H1 : (if (l3.length : Int) > 200 then ((tiklaw22_first.f).bind fun t103 => (some t103)) else ((clock_New.f a0 a1 a2_0 a2_1).bind fun bt104 => ((tiklaw22_plain.f a2_0 a2_1).bind fun bt111 => ((tikref22_NewClock.f a0 a1 bt111.1 bt111.2).bind fun bt113 => (if bt104.2.2.2.2.2 = bt113.2.2.2.2.2 then (tiklaw22_ClockGoes.j0 k l3 (false != false) bt104.1 bt104.2.1 bt104.2.2.1 bt104.2.2.2.1 bt104.2.2.2.2.1 bt113.1 bt113.2.1 bt113.2.2.1 bt113.2.2.2.1 bt113.2.2.2.2.1) else (tiklaw22_ClockGoes.j0 k l3 true bt104.1 bt104.2.1 bt104.2.2.1 bt104.2.2.2.1 bt104.2.2.2.2.1 bt113.1 bt113.2.1 bt113.2.2.1 bt113.2.2.2.1 bt113.2.2.2.2.1)))))) = some r := by rw [if_pos rfl] at H; exact H
    clear H
    have H := H1
    clear H1
    by_cases c7 : (l3.length : Int) > 200
    · rw [if_pos c7] at H
      have c7b0 : decide (200 < (l3.length : Int)) = true := decide_eq_true c7
      have c7b1 : decide (200 < l3.length) = true := decide_eq_true (by omega)
      clear c7
      replace H := Option.bind_eq_some_iff.mp H
      obtain ⟨t103, A80, H⟩ := H
      replace H : (some t103) = some r := H
      have A8 := Aside0.mk A80
      clear A80
      obtain rfl := Option.some.inj H
      go_enter Try.func6, Try.ntmps6
      go_wp2_with (first | ((with_reducible refine gate_dst (N := 6) rfl ?_); (try (refine gate_guard (by rfl) ?_; dsimp only)); refine box_event ?hg (N := 6) ?hd (cs := #[.int .u64 a2_0, .int .u64 a2_1]) (t := 24) ?hr ?_; (case hd => rfl); (case hg => rfl); (case hr => first | (go_simp; done) | (go_simp; rfl)); intro gb101 hg w9 hbox hb; have n0_ := Aside0.mk (below_step (by repeat (first | (with_reducible first | exact HB.out | apply below_alloc | apply pw_below_drewN | apply below_drew1) | exact HB.out)) hb); have n1_ := Aside0.mk (hbox); have n2_ := Aside0.mk ((by rw [hg]; exact (below_size (by repeat (first | (with_reducible first | exact HB.out | apply below_alloc | apply pw_below_drewN | apply below_drew1) | exact HB.out))) : w.heap.size ≤ gb101)); have n3_ := Aside0.mk ((by rw [hg]; exact (below_size (by repeat (first | (with_reducible first | exact HB.out | apply below_alloc | apply pw_below_drewN | apply below_drew1) | exact HB.out))) : w.heap.size ≤ gb101)); clear HB; have HB := n0_; have BK101 := n1_; have GW101 := n2_; have GE101 := n3_; clear n0_ n1_ n2_ n3_; clear hb hbox hg) | ((with_reducible refine gate_callee (f := 7) rfl ?_); refine goesL_ (some 16) rfl rfl Try.func7 (by kernel_rfl) rfl #[] rfl (by (try simp only [List.map_toArray, List.map_cons, List.map_nil]); first | done | rfl | (simp only [List.length_drop, List.length_take]; rfl)) ?_; (with_reducible refine (tiklaw22_first.calls  true _ A5.out).mono ?_); rintro e w10 ⟨rfl, hb⟩; refine ⟨_, rfl, ?_⟩; have n0_ := Aside0.mk (blk_below (g := gb101) (o := .cells #[.int .u64 a2_0, .int .u64 a2_1] 24 (0, 0)) (by (with_reducible repeat (first | refine blk_drewN ?_ _ | refine blk_drew ?_ | refine blk_alloc ?_ _)); exact BK101.out) hb); have n1_ := Aside0.mk (below_step (by repeat (first | (with_reducible first | exact HB.out | apply below_alloc | apply pw_below_drewN | apply below_drew1 | refine below_set ?_ GE101.out) | exact HB.out)) hb); clear BK101; clear HB; have BK101 := n0_; have HB := n1_; clear n0_ n1_; (try clear hb); (try clear hb2); (try clear hk); (try clear hi)) | ((with_reducible refine gate_callee (f := 7) rfl ?_); refine goesL_ (some 21) rfl rfl Try.func7 (by kernel_rfl) rfl #[] rfl (by (try simp only [List.map_toArray, List.map_cons, List.map_nil]); first | done | rfl | (simp only [List.length_drop, List.length_take]; rfl)) ?_; (with_reducible refine (tiklaw22_first.calls  t103 _ A8.out).mono ?_); rintro e w11 ⟨rfl, hb⟩; refine ⟨_, rfl, ?_⟩; have n0_ := Aside0.mk (blk_below (g := gb101) (o := .cells #[.int .u64 a2_0, .int .u64 a2_1] 24 (0, 0)) (by (with_reducible repeat (first | refine blk_drewN ?_ _ | refine blk_drew ?_ | refine blk_alloc ?_ _)); exact BK101.out) hb); have n1_ := Aside0.mk (below_step (by repeat (first | (with_reducible first | exact HB.out | apply below_alloc | apply pw_below_drewN | apply below_drew1 | refine below_set ?_ GE101.out) | exact HB.out)) hb); clear BK101; clear HB; have BK101 := n0_; have HB := n1_; clear n0_ n1_; (try clear hb); (try clear hb2); (try clear hk); (try clear hi)))
      go_ret
      exact ⟨by first | rfl | (simp [errW_none, errW_some] <;> rfl) | (simp [*, errW_none, errW_some] <;> rfl), by repeat (first | (with_reducible first | exact HB.out | apply below_alloc | apply pw_below_drewN | apply below_drew1 | refine below_set ?_ GE101.out) | exact HB.out)⟩
    · rw [if_neg c7] at H
      have c7b0 : decide (200 < (l3.length : Int)) = false := decide_eq_false c7
      have c7b1 : decide (200 < l3.length) = false := decide_eq_false (by omega)
      clear c7
      replace H := Option.bind_eq_some_iff.mp H
      obtain ⟨⟨t104, t105, t106, t107, t108, t110⟩, A120, H⟩ := H
      replace H : ((tiklaw22_plain.f a2_0 a2_1).bind fun bt111 => ((tikref22_NewClock.f a0 a1 bt111.1 bt111.2).bind fun bt113 => (if t110 = bt113.2.2.2.2.2 then (tiklaw22_ClockGoes.j0 k l3 (false != false) t104 t105 t106 t107 t108 bt113.1 bt113.2.1 bt113.2.2.1 bt113.2.2.2.1 bt113.2.2.2.2.1) else (tiklaw22_ClockGoes.j0 k l3 true t104 t105 t106 t107 t108 bt113.1 bt113.2.1 bt113.2.2.1 bt113.2.2.2.1 bt113.2.2.2.2.1)))) = some r := H
      have A12 := Aside0.mk A120
      clear A120
      replace H := Option.bind_eq_some_iff.mp H
      obtain ⟨⟨t111, t112⟩, A130, H⟩ := H
      replace H : ((tikref22_NewClock.f a0 a1 t111 t112).bind fun bt113 => (if t110 = bt113.2.2.2.2.2 then (tiklaw22_ClockGoes.j0 k l3 (false != false) t104 t105 t106 t107 t108 bt113.1 bt113.2.1 bt113.2.2.1 bt113.2.2.2.1 bt113.2.2.2.2.1) else (tiklaw22_ClockGoes.j0 k l3 true t104 t105 t106 t107 t108 bt113.1 bt113.2.1 bt113.2.2.1 bt113.2.2.2.1 bt113.2.2.2.2.1))) = some r := H
      have A13 := Aside0.mk A130
      clear A130
      replace H := Option.bind_eq_some_iff.mp H
      obtain ⟨⟨t113, t114, t115, t116, t117, t119⟩, A140, H⟩ := H
      replace H : (if t110 = t119 then (tiklaw22_ClockGoes.j0 k l3 (false != false) t104 t105 t106 t107 t108 t113 t114 t115 t116 t117) else (tiklaw22_ClockGoes.j0 k l3 true t104 t105 t106 t107 t108 t113 t114 t115 t116 t117)) = some r := H
      have A14 := Aside0.mk A140
      clear A140
      have HC15 := Aside0.mk H
      clear H
      go_enter Try.func6, Try.ntmps6
      go_upto_region 7 with (first | ((with_reducible refine gate_dst (N := 6) rfl ?_); (try (refine gate_guard (by rfl) ?_; dsimp only)); refine box_event ?hg (N := 6) ?hd (cs := #[.int .u64 a2_0, .int .u64 a2_1]) (t := 24) ?hr ?_; (case hd => rfl); (case hg => rfl); (case hr => first | (go_simp; done) | (go_simp; rfl)); intro gb101 hg w16 hbox hb; have n0_ := Aside0.mk (below_step (by repeat (first | (with_reducible first | exact HB.out | apply below_alloc | apply pw_below_drewN | apply below_drew1) | exact HB.out)) hb); have n1_ := Aside0.mk (hbox); have n2_ := Aside0.mk ((by rw [hg]; exact (below_size (by repeat (first | (with_reducible first | exact HB.out | apply below_alloc | apply pw_below_drewN | apply below_drew1) | exact HB.out))) : w.heap.size ≤ gb101)); have n3_ := Aside0.mk ((by rw [hg]; exact (below_size (by repeat (first | (with_reducible first | exact HB.out | apply below_alloc | apply pw_below_drewN | apply below_drew1) | exact HB.out))) : w.heap.size ≤ gb101)); clear HB; have HB := n0_; have BK101 := n1_; have GW101 := n2_; have GE101 := n3_; clear n0_ n1_ n2_ n3_; clear hb hbox hg) | ((with_reducible refine gate_callee (f := 7) rfl ?_); refine goesL_ (some 16) rfl rfl Try.func7 (by kernel_rfl) rfl #[] rfl (by (try simp only [List.map_toArray, List.map_cons, List.map_nil]); first | done | rfl | (simp only [List.length_drop, List.length_take]; rfl)) ?_; (with_reducible refine (tiklaw22_first.calls  true _ A5.out).mono ?_); rintro e w17 ⟨rfl, hb⟩; refine ⟨_, rfl, ?_⟩; have n0_ := Aside0.mk (blk_below (g := gb101) (o := .cells #[.int .u64 a2_0, .int .u64 a2_1] 24 (0, 0)) (by (with_reducible repeat (first | refine blk_drewN ?_ _ | refine blk_drew ?_ | refine blk_alloc ?_ _)); exact BK101.out) hb); have n1_ := Aside0.mk (below_step (by repeat (first | (with_reducible first | exact HB.out | apply below_alloc | apply pw_below_drewN | apply below_drew1 | refine below_set ?_ GE101.out) | exact HB.out)) hb); clear BK101; clear HB; have BK101 := n0_; have HB := n1_; clear n0_ n1_; (try clear hb); (try clear hb2); (try clear hk); (try clear hi); have hcz18_0 : w17.cell? ⟨gb101, 0, none⟩ = some (.int .u64 a2_0) := (blk_cell BK101.out 0).trans rfl; have hcz18_1 : w17.cell? ⟨gb101, 1, none⟩ = some (.int .u64 a2_1) := (blk_cell BK101.out 1).trans rfl; have hfz18_0 := blk_frozen BK101.out 0; have hfz18_1 := blk_frozen BK101.out 1) | ((with_reducible refine gate_callee (f := 8) rfl ?_); refine goesL_ (some 26) rfl rfl Try.func8 (by kernel_rfl) rfl #[.int .u64 a0, .int .u64 a1, .agg #[.int .u64 a2_0, .int .u64 a2_1]] rfl (by (try simp only [List.map_toArray, List.map_cons, List.map_nil]); first | done | rfl | (simp only [List.length_drop, List.length_take]; rfl)) ?_; (with_reducible refine (clock_New.calls a0 a1 a2_0 a2_1 t104 t105 t106 t107 t108 t110 w _ ?side1 A12.out).mono ?_); (case side1 => repeat (first | (with_reducible first | exact HB.out | apply below_alloc | apply pw_below_drewN | apply below_drew1 | refine below_set ?_ GE101.out) | exact HB.out)); rintro e w19 ⟨g109, rfl, hi, hb, hb2, hnew⟩; refine ⟨_, rfl, ?_⟩; have n0_ := Aside0.mk (blk_below (g := gb101) (o := .cells #[.int .u64 a2_0, .int .u64 a2_1] 24 (0, 0)) (by (with_reducible repeat (first | refine blk_drewN ?_ _ | refine blk_drew ?_ | refine blk_alloc ?_ _)); exact BK101.out) hb2); have n1_ := Aside0.mk (hb); have n2_ := Aside0.mk (hi); have n3_ := Aside0.mk (IsS55.ne_blk hi (blk_below (g := gb101) (o := .cells #[.int .u64 a2_0, .int .u64 a2_1] 24 (0, 0)) (by (with_reducible repeat (first | refine blk_drewN ?_ _ | refine blk_drew ?_ | refine blk_alloc ?_ _)); exact BK101.out) hb2) (by decide)); have n4_ := Aside0.mk (Ne.symm (IsS55.ne_blk hi (blk_below (g := gb101) (o := .cells #[.int .u64 a2_0, .int .u64 a2_1] 24 (0, 0)) (by (with_reducible repeat (first | refine blk_drewN ?_ _ | refine blk_drew ?_ | refine blk_alloc ?_ _)); exact BK101.out) hb2) (by decide))); clear BK101; clear HB; have BK101 := n0_; have HB := n1_; have HI109 := n2_; have NB109_101 := n3_; have NB101_109 := n4_; clear n0_ n1_ n2_ n3_ n4_; (try clear hb); (try clear hb2); (try clear hk); (try clear hi); have hnb20 := NB101_109.out; have hnc20 := NB109_101.out; have hcz21_0 : w19.cell? ⟨gb101, 0, none⟩ = some (.int .u64 a2_0) := (blk_cell BK101.out 0).trans rfl; have hcz21_1 : w19.cell? ⟨gb101, 1, none⟩ = some (.int .u64 a2_1) := (blk_cell BK101.out 1).trans rfl; have hfz21_0 := blk_frozen BK101.out 0; have hfz21_1 := blk_frozen BK101.out 1) | ((with_reducible refine gate_callee (f := 17) rfl ?_); refine goesL_ (some 33) rfl rfl Try.func17 (by kernel_rfl) rfl #[.agg #[.int .u64 a2_0, .int .u64 a2_1]] rfl (by (try simp only [List.map_toArray, List.map_cons, List.map_nil]); first | done | rfl | (simp only [List.length_drop, List.length_take]; rfl)) ?_; (with_reducible refine (tiklaw22_plain.calls a2_0 a2_1 t111 t112 _ A13.out).mono ?_); rintro e w22 ⟨rfl, hb⟩; refine ⟨_, rfl, ?_⟩; have n0_ := Aside0.mk (blk_below (g := gb101) (o := .cells #[.int .u64 a2_0, .int .u64 a2_1] 24 (0, 0)) (by (with_reducible repeat (first | refine blk_drewN ?_ _ | refine blk_drew ?_ | refine blk_alloc ?_ _)); exact BK101.out) hb); have n1_ := Aside0.mk (IsS55.below (by repeat (first | (with_reducible first | exact HI109.out | apply IsS55.alloc | apply IsS55.drewN | apply IsS55.drew | apply IsS55.set_0 | apply IsS55.set_1 | apply IsS55.set_2 | apply IsS55.set_3 | apply IsS55.set_4 | refine IsS55.far ?_ NB109_101.out _) | exact HI109.out)) hb); have n2_ := Aside0.mk (below_step (by repeat (first | (with_reducible first | exact HB.out | apply below_alloc | apply pw_below_drewN | apply below_drew1 | refine below_set ?_ (IsS55.ge HI109.out) | refine below_set ?_ GE101.out) | exact HB.out)) hb); clear BK101; clear HI109; clear HB; have BK101 := n0_; have HI109 := n1_; have HB := n2_; clear n0_ n1_ n2_; (try clear hb); (try clear hb2); (try clear hk); (try clear hi)) | ((with_reducible refine gate_callee (f := 16) rfl ?_); refine goesL_ (some 34) rfl rfl Try.func16 (by kernel_rfl) rfl #[.int .u64 a0, .int .u64 a1, .agg #[.int .u64 t111, .int .u64 t112]] rfl (by (try simp only [List.map_toArray, List.map_cons, List.map_nil]); first | done | rfl | (simp only [List.length_drop, List.length_take]; rfl)) ?_; (with_reducible refine (tikref22_NewClock.calls a0 a1 t111 t112 t113 t114 t115 t116 t117 t119 w _ ?side1 A14.out).mono ?_); (case side1 => repeat (first | (with_reducible first | exact HB.out | apply below_alloc | apply pw_below_drewN | apply below_drew1 | refine below_set ?_ (IsS55.ge HI109.out) | refine below_set ?_ GE101.out) | exact HB.out)); rintro e w23 ⟨g118, rfl, hi, hb, hb2, hnew⟩; refine ⟨_, rfl, ?_⟩; have n0_ := Aside0.mk ((Nat.ne_of_lt (Nat.lt_of_lt_of_le (IsS55.lt (show IsS55 w _ g109 t104 t105 t106 t107 t108 from by repeat (first | (with_reducible first | exact HI109.out | apply IsS55.alloc | apply IsS55.drewN | apply IsS55.drew | apply IsS55.set_0 | apply IsS55.set_1 | apply IsS55.set_2 | apply IsS55.set_3 | apply IsS55.set_4 | refine IsS55.far ?_ NB109_101.out _) | exact HI109.out))) hnew) : g109 ≠ g118)); have n1_ := Aside0.mk ((Nat.ne_of_gt (Nat.lt_of_lt_of_le (IsS55.lt (show IsS55 w _ g109 t104 t105 t106 t107 t108 from by repeat (first | (with_reducible first | exact HI109.out | apply IsS55.alloc | apply IsS55.drewN | apply IsS55.drew | apply IsS55.set_0 | apply IsS55.set_1 | apply IsS55.set_2 | apply IsS55.set_3 | apply IsS55.set_4 | refine IsS55.far ?_ NB109_101.out _) | exact HI109.out))) hnew) : g118 ≠ g109)); have n2_ := Aside0.mk (blk_below (g := gb101) (o := .cells #[.int .u64 a2_0, .int .u64 a2_1] 24 (0, 0)) (by (with_reducible repeat (first | refine blk_drewN ?_ _ | refine blk_drew ?_ | refine blk_alloc ?_ _)); exact BK101.out) hb2); have n3_ := Aside0.mk (IsS55.below (by repeat (first | (with_reducible first | exact HI109.out | apply IsS55.alloc | apply IsS55.drewN | apply IsS55.drew | apply IsS55.set_0 | apply IsS55.set_1 | apply IsS55.set_2 | apply IsS55.set_3 | apply IsS55.set_4 | refine IsS55.far ?_ NB109_101.out _) | exact HI109.out)) hb2); have n4_ := Aside0.mk (hb); have n5_ := Aside0.mk (hi); have n6_ := Aside0.mk (IsS51.ne_blk hi (blk_below (g := gb101) (o := .cells #[.int .u64 a2_0, .int .u64 a2_1] 24 (0, 0)) (by (with_reducible repeat (first | refine blk_drewN ?_ _ | refine blk_drew ?_ | refine blk_alloc ?_ _)); exact BK101.out) hb2) (by decide)); have n7_ := Aside0.mk (Ne.symm (IsS51.ne_blk hi (blk_below (g := gb101) (o := .cells #[.int .u64 a2_0, .int .u64 a2_1] 24 (0, 0)) (by (with_reducible repeat (first | refine blk_drewN ?_ _ | refine blk_drew ?_ | refine blk_alloc ?_ _)); exact BK101.out) hb2) (by decide))); clear BK101; clear HI109; clear HB; have NB109_118 := n0_; have NB118_109 := n1_; have BK101 := n2_; have HI109 := n3_; have HB := n4_; have HI118 := n5_; have NB118_101 := n6_; have NB101_118 := n7_; clear n0_ n1_ n2_ n3_ n4_ n5_ n6_ n7_; (try clear hb); (try clear hb2); (try clear hk); (try clear hi)))
      (try simp only [Act.put, List.setIfInBounds_toArray, List.set_cons_zero, List.set_cons_succ])
      go_cut [46] (fun v46 wc => ∃ (kq : Nat) (x46_14 : Bool), v46 = .bool x46_14 ∧ Aside0 (tiklaw22_ClockGoes.j0 kq l3 x46_14 t104 t105 t106 t107 t108 t113 t114 t115 t116 t117 = some r) ∧ Aside0 (kq ≤ k) ∧ Aside0 (wc.heap[gb101]? = some (.cells #[.int .u64 a2_0, .int .u64 a2_1] 24 (0, 0))) ∧ Aside0 (IsS55 w wc g109 t104 t105 t106 t107 t108) ∧ Aside0 (IsS51 w wc g118 t113 t114 t115 t116 t117) ∧ Aside0 (Below w.heap.size w wc))
      case first =>
        have H := HC15.out
        clear HC15
        by_cases c24 : t110 = t119
        · rw [if_pos c24] at H
          have c24b0 : (t110 == t119) = true := beq_iff_eq.mpr c24
          have c24b1 : (t110 != t119) = false := bne_eq_false_iff_eq.mpr c24
          clear c24
          (first | rw [c24b0] | (simp only [i64_w, i32_w]; rw [c24b0]) | skip)
          have H' := Aside0.mk H
          clear H
          go_wp2
          go_meet
          case rel => exact ⟨_, ((false != false)), (by first | rfl | (simp; done) | (simp [*]; done)), H', ⟨by first | omega | exact Nat.le_refl _⟩, ⟨by (with_reducible repeat (first | refine blk_drewN ?_ _ | refine blk_drew ?_ | refine blk_alloc ?_ _)); exact BK101.out⟩, ⟨by repeat (first | (with_reducible first | exact HI109.out | apply IsS55.alloc | apply IsS55.drewN | apply IsS55.drew | apply IsS55.set_0 | apply IsS55.set_1 | apply IsS55.set_2 | apply IsS55.set_3 | apply IsS55.set_4 | refine IsS55.far ?_ NB109_101.out _) | exact HI109.out)⟩, ⟨by repeat (first | (with_reducible first | exact HI118.out | apply IsS51.alloc | apply IsS51.drewN | apply IsS51.drew | apply IsS51.set_0 | apply IsS51.set_1 | apply IsS51.set_2 | apply IsS51.set_3 | apply IsS51.set_4 | refine IsS51.far ?_ NB118_101.out _) | exact HI118.out)⟩, ⟨by repeat (first | (with_reducible first | exact HB.out | apply below_alloc | apply pw_below_drewN | apply below_drew1 | refine below_set ?_ (IsS55.ge HI109.out) | refine below_set ?_ (IsS51.ge HI118.out) | refine below_set ?_ GE101.out) | exact HB.out)⟩⟩
        · rw [if_neg c24] at H
          have c24b0 : (t110 == t119) = false := beq_eq_false_iff_ne.mpr c24
          have c24b1 : (t110 != t119) = true := bne_iff_ne.mpr c24
          (first | rw [c24b0] | (simp only [i64_w, i32_w]; rw [c24b0]) | skip)
          have H' := Aside0.mk H
          clear H
          go_wp2
          go_meet
          case rel => exact ⟨_, (true), (by first | rfl | (simp; done) | (simp [*]; done)), H', ⟨by first | omega | exact Nat.le_refl _⟩, ⟨by (with_reducible repeat (first | refine blk_drewN ?_ _ | refine blk_drew ?_ | refine blk_alloc ?_ _)); exact BK101.out⟩, ⟨by repeat (first | (with_reducible first | exact HI109.out | apply IsS55.alloc | apply IsS55.drewN | apply IsS55.drew | apply IsS55.set_0 | apply IsS55.set_1 | apply IsS55.set_2 | apply IsS55.set_3 | apply IsS55.set_4 | refine IsS55.far ?_ NB109_101.out _) | exact HI109.out)⟩, ⟨by repeat (first | (with_reducible first | exact HI118.out | apply IsS51.alloc | apply IsS51.drewN | apply IsS51.drew | apply IsS51.set_0 | apply IsS51.set_1 | apply IsS51.set_2 | apply IsS51.set_3 | apply IsS51.set_4 | refine IsS51.far ?_ NB118_101.out _) | exact HI118.out)⟩, ⟨by repeat (first | (with_reducible first | exact HB.out | apply below_alloc | apply pw_below_drewN | apply below_drew1 | refine below_set ?_ (IsS55.ge HI109.out) | refine below_set ?_ (IsS51.ge HI118.out) | refine below_set ?_ GE101.out) | exact HB.out)⟩⟩
      case rest =>
        clear HC15
        try clear c1
        try clear c2
        try clear p2
        try clear c3
        try clear c6
        try clear c7
        try clear c7b0
        try clear c7b1
        try clear c8
        try clear c16
        try clear c17
        try clear c20
        try clear c24
        try clear c24b0
        try clear c24b1
        try clear hcz18_0
        try clear hcz18_1
        try clear hcz21_0
        try clear hcz21_1
        try clear hfz18_0
        try clear hfz18_1
        try clear hfz21_0
        try clear hfz21_1
        obtain ⟨kq, x46_14, rfl, HA, HJ14, BK101, HI109, HI118, HB⟩ := hcut
        cases kq with
        | zero => exact absurd HA.out (by simp [tiklaw22_ClockGoes.j0])
        | succ kj14 =>
          have H := HA.out
          clear HA
          simp only [tiklaw22_ClockGoes.j0] at H
          by_cases c25 : x46_14 = true
          · subst c25
            have H1 : (some false) = some r := by rw [if_pos rfl] at H; exact H
            clear H
            have H := H1
            clear H1
            exact absurd ((Option.some.inj H).trans hr_.out) (by simp)
          · replace c25 := Bool.eq_false_iff.mpr c25
            subst c25
            have H1 : (tiklaw22_ClockGoes.l0 kj14 l3 0 t104 t105 t106 t107 t108 t113 t114 t115 t116 t117) = some r := by rw [if_neg (show ¬ (false = true) by decide)] at H; exact H
            clear H
            have H := H1
            clear H1
            have H' := Aside0.mk H
            clear H
            go_wp2
            go_loopg [13] kj14 (fun kq v13 w' => ∃ (x13_2 : Int) (x110000_2 : Int) (x110001_2 : Int) (x110002_2 : Int) (x110003_2 : Int) (x110004_2 : Int) (x119000_2 : Int) (x119001_2 : Int) (x119002_2 : Int) (x119003_2 : Int) (x119004_2 : Int), v13 = .int .i64 x13_2 ∧ Aside0 (tiklaw22_ClockGoes.l0 kq l3 x13_2 x110000_2 x110001_2 x110002_2 x110003_2 x110004_2 x119000_2 x119001_2 x119002_2 x119003_2 x119004_2 = some r) ∧ Aside0 (kq ≤ kj14) ∧ Aside0 (w'.heap[gb101]? = some (.cells #[.int .u64 a2_0, .int .u64 a2_1] 24 (0, 0))) ∧ Aside0 (IsS55 w w' g109 x110000_2 x110001_2 x110002_2 x110003_2 x110004_2) ∧ Aside0 (IsS51 w w' g118 x119000_2 x119001_2 x119002_2 x119003_2 x119004_2) ∧ Aside0 (Below w.heap.size w w'))
            case atStart => exact ⟨(0), (t104), (t105), (t106), (t107), (t108), (t113), (t114), (t115), (t116), (t117), (by first | rfl | (simp; done) | (simp [*]; done)), H', ⟨Nat.le_refl _⟩, ⟨by (with_reducible repeat (first | refine blk_drewN ?_ _ | refine blk_drew ?_ | refine blk_alloc ?_ _)); exact BK101.out⟩, ⟨by repeat (first | (with_reducible first | exact HI109.out | apply IsS55.alloc | apply IsS55.drewN | apply IsS55.drew | apply IsS55.set_0 | apply IsS55.set_1 | apply IsS55.set_2 | apply IsS55.set_3 | apply IsS55.set_4 | refine IsS55.far ?_ NB109_101.out _) | exact HI109.out)⟩, ⟨by repeat (first | (with_reducible first | exact HI118.out | apply IsS51.alloc | apply IsS51.drewN | apply IsS51.drew | apply IsS51.set_0 | apply IsS51.set_1 | apply IsS51.set_2 | apply IsS51.set_3 | apply IsS51.set_4 | refine IsS51.far ?_ NB118_101.out _) | exact HI118.out)⟩, ⟨by repeat (first | (with_reducible first | exact HB.out | apply below_alloc | apply pw_below_drewN | apply below_drew1 | refine below_set ?_ (IsS55.ge HI109.out) | refine below_set ?_ (IsS51.ge HI118.out) | refine below_set ?_ GE101.out) | exact HB.out)⟩⟩
            case round =>
              clear H'
              try clear c1
              try clear c2
              try clear p2
              try clear c3
              try clear c6
              try clear c7
              try clear c7b0
              try clear c7b1
              try clear c8
              try clear c16
              try clear c17
              try clear c20
              try clear c24
              try clear c24b0
              try clear c24b1
              try clear c25
              try clear hcz18_0
              try clear hcz18_1
              try clear hcz21_0
              try clear hcz21_1
              try clear hfz18_0
              try clear hfz18_1
              try clear hfz21_0
              try clear hfz21_1
              try clear p2
              obtain ⟨x13_2, x110000_2, x110001_2, x110002_2, x110003_2, x110004_2, x119000_2, x119001_2, x119002_2, x119003_2, x119004_2, rfl, HA, HK2, BK101, HI109, HI118, HB⟩ := hrel
              cases gk with
              | zero => exact absurd HA.out (by simp [tiklaw22_ClockGoes.l0])
              | succ k2 =>
                have H := HA.out
                clear HA
                simp only [tiklaw22_ClockGoes.l0] at H
                have HC26 := Aside0.mk H
                clear H
                go_upto_region 10 with (fail)
                go_cut [54] (fun v54 wc => ∃ (kq : Nat) (x54_25 : Bool), v54 = .bool x54_25 ∧ Aside0 (tiklaw22_ClockGoes.j2 kq l3 x13_2 x54_25 x110000_2 x110001_2 x110002_2 x110003_2 x110004_2 x119000_2 x119001_2 x119002_2 x119003_2 x119004_2 = some r) ∧ Aside0 (kq ≤ k2) ∧ Aside0 (wc.heap[gb101]? = some (.cells #[.int .u64 a2_0, .int .u64 a2_1] 24 (0, 0))) ∧ Aside0 (IsS55 w wc g109 x110000_2 x110001_2 x110002_2 x110003_2 x110004_2) ∧ Aside0 (IsS51 w wc g118 x119000_2 x119001_2 x119002_2 x119003_2 x119004_2) ∧ Aside0 (Below w.heap.size w wc))
                case first =>
                  have H := HC26.out
                  clear HC26
                  have H1 : (tiklaw22_ClockGoes.j2 k2 l3 x13_2 (decide (x13_2 < (l3.length : Int))) x110000_2 x110001_2 x110002_2 x110003_2 x110004_2 x119000_2 x119001_2 x119002_2 x119003_2 x119004_2) = some r := by first | (rw [if_pos rfl] at H; exact H) | exact (if_pos trivial).symm.trans H
                  clear H
                  have H := H1
                  clear H1
                  have H' := Aside0.mk H
                  clear H
                  go_wp2
                  go_meet
                  case rel => exact ⟨_, (decide (x13_2 < (l3.length : Int))), (by first | rfl | (simp; done) | (simp [*]; done)), H', ⟨by have := HJ14.out; have := HK2.out; first | omega | exact Nat.le_refl _⟩, ⟨by (with_reducible repeat (first | refine blk_drewN ?_ _ | refine blk_drew ?_ | refine blk_alloc ?_ _)); exact BK101.out⟩, ⟨by repeat (first | (with_reducible first | exact HI109.out | apply IsS55.alloc | apply IsS55.drewN | apply IsS55.drew | apply IsS55.set_0 | apply IsS55.set_1 | apply IsS55.set_2 | apply IsS55.set_3 | apply IsS55.set_4 | refine IsS55.far ?_ NB109_101.out _) | exact HI109.out)⟩, ⟨by repeat (first | (with_reducible first | exact HI118.out | apply IsS51.alloc | apply IsS51.drewN | apply IsS51.drew | apply IsS51.set_0 | apply IsS51.set_1 | apply IsS51.set_2 | apply IsS51.set_3 | apply IsS51.set_4 | refine IsS51.far ?_ NB118_101.out _) | exact HI118.out)⟩, ⟨by repeat (first | (with_reducible first | exact HB.out | apply below_alloc | apply pw_below_drewN | apply below_drew1 | refine below_set ?_ (IsS55.ge HI109.out) | refine below_set ?_ (IsS51.ge HI118.out) | refine below_set ?_ GE101.out) | exact HB.out)⟩⟩
                case rest =>
                  clear HC26
                  try clear c1
                  try clear c2
                  try clear p2
                  try clear c3
                  try clear c6
                  try clear c7
                  try clear c7b0
                  try clear c7b1
                  try clear c8
                  try clear c16
                  try clear c17
                  try clear c20
                  try clear c24
                  try clear c24b0
                  try clear c24b1
                  try clear c25
                  try clear hcz18_0
                  try clear hcz18_1
                  try clear hcz21_0
                  try clear hcz21_1
                  try clear hfz18_0
                  try clear hfz18_1
                  try clear hfz21_0
                  try clear hfz21_1
                  try clear p2
                  obtain ⟨kq, x54_25, rfl, HA, HJ25, BK101, HI109, HI118, HB⟩ := hcut
                  cases kq with
                  | zero => exact absurd HA.out (by simp [tiklaw22_ClockGoes.j2])
                  | succ kj25 =>
                    have H := HA.out
                    clear HA
                    simp only [tiklaw22_ClockGoes.j2] at H
                    by_cases c27 : x54_25 = true
                    · subst c27
                      have H1 : (if 0 ≤ x13_2 then (if x13_2 < (l3.length : Int) then (if ((rd_T48 l3 x13_2).f0) = 0 then ((clock_Clock_Go.f x110000_2 x110001_2 x110002_2 x110003_2 x110004_2 ((rd_T48 l3 x13_2).f1)).bind fun bt123 => ((tikref22_Clock_Go.f kj25 x119000_2 x119001_2 x119002_2 x119003_2 x119004_2 ((rd_T48 l3 x13_2).f1)).bind fun bt129 => (tiklaw22_ClockGoes.j3 kj25 l3 x13_2 (bt123.1 == bt129.1) bt123.2.1 bt123.2.2.1 bt123.2.2.2.1 bt123.2.2.2.2.1 bt123.2.2.2.2.2 bt129.2.1 bt129.2.2.1 bt129.2.2.2.1 bt129.2.2.2.2.1 bt129.2.2.2.2.2 ((rd_T48 l3 x13_2).f0) ((rd_T48 l3 x13_2).f1) ((rd_T48 l3 x13_2).f2) ((rd_T48 l3 x13_2).f3.f0) ((rd_T48 l3 x13_2).f3.f1)))) else (if ((rd_T48 l3 x13_2).f0) = 1 then ((clock_Clock_Set.f x110000_2 x110001_2 x110002_2 x110003_2 x110004_2 ((rd_T48 l3 x13_2).f1) ((rd_T48 l3 x13_2).f2)).bind fun bt135 => ((tikref22_Clock_Set.f x119000_2 x119001_2 x119002_2 x119003_2 x119004_2 ((rd_T48 l3 x13_2).f1) ((rd_T48 l3 x13_2).f2)).bind fun bt141 => (tiklaw22_ClockGoes.j3 kj25 l3 x13_2 (bt135.1 == bt141.1) bt135.2.1 bt135.2.2.1 bt135.2.2.2.1 bt135.2.2.2.2.1 bt135.2.2.2.2.2 bt141.2.1 bt141.2.2.1 bt141.2.2.2.1 bt141.2.2.2.2.1 bt141.2.2.2.2.2 ((rd_T48 l3 x13_2).f0) ((rd_T48 l3 x13_2).f1) ((rd_T48 l3 x13_2).f2) ((rd_T48 l3 x13_2).f3.f0) ((rd_T48 l3 x13_2).f3.f1)))) else (if ((rd_T48 l3 x13_2).f0) = 2 then ((clock_Clock_Turn.f kj25 x110000_2 x110001_2 x110002_2 x110003_2 x110004_2 ((rd_T48 l3 x13_2).f1) ((rd_T48 l3 x13_2).f3.f0) ((rd_T48 l3 x13_2).f3.f1)).bind fun bt147 => ((tiklaw22_plain.f ((rd_T48 l3 x13_2).f3.f0) ((rd_T48 l3 x13_2).f3.f1)).bind fun bt153 => ((tikref22_Clock_Turn.f kj25 x119000_2 x119001_2 x119002_2 x119003_2 x119004_2 ((rd_T48 l3 x13_2).f1) bt153.1 bt153.2).bind fun bt155 => (tiklaw22_ClockGoes.j3 kj25 l3 x13_2 (bt147.1 == bt155.1) bt147.2.1 bt147.2.2.1 bt147.2.2.2.1 bt147.2.2.2.2.1 bt147.2.2.2.2.2 bt155.2.1 bt155.2.2.1 bt155.2.2.2.1 bt155.2.2.2.2.1 bt155.2.2.2.2.2 ((rd_T48 l3 x13_2).f0) ((rd_T48 l3 x13_2).f1) ((rd_T48 l3 x13_2).f2) ((rd_T48 l3 x13_2).f3.f0) ((rd_T48 l3 x13_2).f3.f1))))) else (tiklaw22_ClockGoes.j3 kj25 l3 x13_2 true x110000_2 x110001_2 x110002_2 x110003_2 x110004_2 x119000_2 x119001_2 x119002_2 x119003_2 x119004_2 ((rd_T48 l3 x13_2).f0) ((rd_T48 l3 x13_2).f1) ((rd_T48 l3 x13_2).f2) ((rd_T48 l3 x13_2).f3.f0) ((rd_T48 l3 x13_2).f3.f1))))) else (none)) else (none)) = some r := by rw [if_pos rfl] at H; exact H
                      clear H
                      have H := H1
                      clear H1
                      by_cases c28 : 0 ≤ x13_2
                      · rw [if_pos c28] at H
                        have c28b0 : decide (0 ≤ x13_2) = true := decide_eq_true c28
                        clear c28
                        by_cases c29 : x13_2 < (l3.length : Int)
                        · rw [if_pos c29] at H
                          have c29b0 : decide (x13_2 < (l3.length : Int)) = true := decide_eq_true c29
                          clear c29
                          have HC30 := Aside0.mk H
                          clear H
                          have p121 : 0 ≤ (x13_2 : Int) := of_decide_eq_true (by first | (with_reducible assumption) | assumption)
                          have q121 : x13_2 < (l3.length : Int) := of_decide_eq_true (by first | (with_reducible assumption) | assumption)
                          obtain ⟨ad121, e121, hx121_0, hx121_1, hx121_2, hx121_3, hx121_4⟩ := at_T48 HR3.out x13_2 p121 q121
                          cases e121
                          replace hx121_0 := (HB.out.cell (World.block_lt_of_cell? w _ hx121_0)).trans hx121_0
                          replace hx121_1 := (HB.out.cell (World.block_lt_of_cell? w _ hx121_1)).trans hx121_1
                          replace hx121_2 := (HB.out.cell (World.block_lt_of_cell? w _ hx121_2)).trans hx121_2
                          replace hx121_3 := (HB.out.cell (World.block_lt_of_cell? w _ hx121_3)).trans hx121_3
                          replace hx121_4 := (HB.out.cell (World.block_lt_of_cell? w _ hx121_4)).trans hx121_4
                          replace p121 := eq_true p121
                          replace q121 := eq_true q121
                          go_upto_block 2 with (first | ((with_reducible refine gate_dst (N := 14) rfl ?_); (try (refine gate_guard (by rfl) ?_; dsimp only)); refine box_event ?hg (N := 14) ?hd (cs := #[.int .i64 0, .int .u64 0, .int .u64 0, .int .u64 0, .int .u64 0]) (t := 48) ?hr ?_; (case hd => rfl); (case hg => rfl); (case hr => first | (go_simp; done) | (go_simp; rfl)); intro gb122 hg w31 hbox hb; have n0_ := Aside0.mk (blk_below (g := gb101) (o := .cells #[.int .u64 a2_0, .int .u64 a2_1] 24 (0, 0)) (by (with_reducible repeat (first | refine blk_drewN ?_ _ | refine blk_drew ?_ | refine blk_alloc ?_ _)); exact BK101.out) hb); have n1_ := Aside0.mk (IsS55.below (by repeat (first | (with_reducible first | exact HI109.out | apply IsS55.alloc | apply IsS55.drewN | apply IsS55.drew | apply IsS55.set_0 | apply IsS55.set_1 | apply IsS55.set_2 | apply IsS55.set_3 | apply IsS55.set_4 | refine IsS55.far ?_ NB109_101.out _) | exact HI109.out)) hb); have n2_ := Aside0.mk (IsS51.below (by repeat (first | (with_reducible first | exact HI118.out | apply IsS51.alloc | apply IsS51.drewN | apply IsS51.drew | apply IsS51.set_0 | apply IsS51.set_1 | apply IsS51.set_2 | apply IsS51.set_3 | apply IsS51.set_4 | refine IsS51.far ?_ NB118_101.out _) | exact HI118.out)) hb); have n3_ := Aside0.mk (below_step (by repeat (first | (with_reducible first | exact HB.out | apply below_alloc | apply pw_below_drewN | apply below_drew1 | refine below_set ?_ (IsS55.ge HI109.out) | refine below_set ?_ (IsS51.ge HI118.out) | refine below_set ?_ GE101.out) | exact HB.out)) hb); have n4_ := Aside0.mk (hbox); have n5_ := Aside0.mk ((by rw [hg]; exact (below_size (by repeat (first | (with_reducible first | exact HB.out | apply below_alloc | apply pw_below_drewN | apply below_drew1 | refine below_set ?_ (IsS55.ge HI109.out) | refine below_set ?_ (IsS51.ge HI118.out) | refine below_set ?_ GE101.out) | exact HB.out))) : w.heap.size ≤ gb122)); have n6_ := Aside0.mk ((by rw [hg]; exact (below_size (by repeat (first | (with_reducible first | exact HB.out | apply below_alloc | apply pw_below_drewN | apply below_drew1 | refine below_set ?_ (IsS55.ge HI109.out) | refine below_set ?_ (IsS51.ge HI118.out) | refine below_set ?_ GE101.out) | exact HB.out))) : w.heap.size ≤ gb122)); have n7_ := Aside0.mk ((by rw [hg]; exact Nat.ne_of_lt (blk_lt (g := gb101) (o := .cells #[.int .u64 a2_0, .int .u64 a2_1] 24 (0, 0)) (by (with_reducible repeat (first | refine blk_drewN ?_ _ | refine blk_drew ?_ | refine blk_alloc ?_ _)); exact BK101.out)) : gb101 ≠ gb122)); have n8_ := Aside0.mk ((by rw [hg]; exact Nat.ne_of_gt (blk_lt (g := gb101) (o := .cells #[.int .u64 a2_0, .int .u64 a2_1] 24 (0, 0)) (by (with_reducible repeat (first | refine blk_drewN ?_ _ | refine blk_drew ?_ | refine blk_alloc ?_ _)); exact BK101.out)) : gb122 ≠ gb101)); have n9_ := Aside0.mk ((by rw [hg]; exact Nat.ne_of_lt (IsS55.lt (show IsS55 w _ g109 x110000_2 x110001_2 x110002_2 x110003_2 x110004_2 from by repeat (first | (with_reducible first | exact HI109.out | apply IsS55.alloc | apply IsS55.drewN | apply IsS55.drew | apply IsS55.set_0 | apply IsS55.set_1 | apply IsS55.set_2 | apply IsS55.set_3 | apply IsS55.set_4 | refine IsS55.far ?_ NB109_101.out _) | exact HI109.out))) : g109 ≠ gb122)); have n10_ := Aside0.mk ((by rw [hg]; exact Nat.ne_of_gt (IsS55.lt (show IsS55 w _ g109 x110000_2 x110001_2 x110002_2 x110003_2 x110004_2 from by repeat (first | (with_reducible first | exact HI109.out | apply IsS55.alloc | apply IsS55.drewN | apply IsS55.drew | apply IsS55.set_0 | apply IsS55.set_1 | apply IsS55.set_2 | apply IsS55.set_3 | apply IsS55.set_4 | refine IsS55.far ?_ NB109_101.out _) | exact HI109.out))) : gb122 ≠ g109)); have n11_ := Aside0.mk ((by rw [hg]; exact Nat.ne_of_lt (IsS51.lt (show IsS51 w _ g118 x119000_2 x119001_2 x119002_2 x119003_2 x119004_2 from by repeat (first | (with_reducible first | exact HI118.out | apply IsS51.alloc | apply IsS51.drewN | apply IsS51.drew | apply IsS51.set_0 | apply IsS51.set_1 | apply IsS51.set_2 | apply IsS51.set_3 | apply IsS51.set_4 | refine IsS51.far ?_ NB118_101.out _) | exact HI118.out))) : g118 ≠ gb122)); have n12_ := Aside0.mk ((by rw [hg]; exact Nat.ne_of_gt (IsS51.lt (show IsS51 w _ g118 x119000_2 x119001_2 x119002_2 x119003_2 x119004_2 from by repeat (first | (with_reducible first | exact HI118.out | apply IsS51.alloc | apply IsS51.drewN | apply IsS51.drew | apply IsS51.set_0 | apply IsS51.set_1 | apply IsS51.set_2 | apply IsS51.set_3 | apply IsS51.set_4 | refine IsS51.far ?_ NB118_101.out _) | exact HI118.out))) : gb122 ≠ g118)); clear BK101; clear HI109; clear HI118; clear HB; have BK101 := n0_; have HI109 := n1_; have HI118 := n2_; have HB := n3_; have BK122 := n4_; have GW122 := n5_; have GE122 := n6_; have NB101_122 := n7_; have NB122_101 := n8_; have NB109_122 := n9_; have NB122_109 := n10_; have NB118_122 := n11_; have NB122_118 := n12_; clear n0_ n1_ n2_ n3_ n4_ n5_ n6_ n7_ n8_ n9_ n10_ n11_ n12_; clear hb hbox hg; have hnb32 := NB122_101.out; have hnc32 := NB101_122.out; have hnb33 := NB122_109.out; have hnc33 := NB109_122.out; have hnb34 := NB122_118.out; have hnc34 := NB118_122.out; have hcz35_0 : w31.cell? ⟨gb122, 0, none⟩ = some (.int .i64 0) := (blk_cell BK122.out 0).trans rfl; have hcz35_1 : w31.cell? ⟨gb122, 1, none⟩ = some (.int .u64 0) := (blk_cell BK122.out 1).trans rfl; have hcz35_2 : w31.cell? ⟨gb122, 2, none⟩ = some (.int .u64 0) := (blk_cell BK122.out 2).trans rfl; have hcz35_3 : w31.cell? ⟨gb122, 3, none⟩ = some (.int .u64 0) := (blk_cell BK122.out 3).trans rfl; have hcz35_4 : w31.cell? ⟨gb122, 4, none⟩ = some (.int .u64 0) := (blk_cell BK122.out 4).trans rfl; have hfz35_0 := blk_frozen BK122.out 0; have hfz35_1 := blk_frozen BK122.out 1; have hfz35_2 := blk_frozen BK122.out 2; have hfz35_3 := blk_frozen BK122.out 3; have hfz35_4 := blk_frozen BK122.out 4))
                          (try simp only [Act.put, List.setIfInBounds_toArray, List.set_cons_zero, List.set_cons_succ])
                          go_cut [15] (fun v15 wc => ∃ (kq : Nat) (x15_29 : Bool) (x110000_29 : Int) (x110001_29 : Int) (x110002_29 : Int) (x110003_29 : Int) (x110004_29 : Int) (x119000_29 : Int) (x119001_29 : Int) (x119002_29 : Int) (x119003_29 : Int) (x119004_29 : Int), v15 = .bool x15_29 ∧ Aside0 (tiklaw22_ClockGoes.j3 kq l3 x13_2 x15_29 x110000_29 x110001_29 x110002_29 x110003_29 x110004_29 x119000_29 x119001_29 x119002_29 x119003_29 x119004_29 ((rd_T48 l3 x13_2).f0) ((rd_T48 l3 x13_2).f1) ((rd_T48 l3 x13_2).f2) ((rd_T48 l3 x13_2).f3.f0) ((rd_T48 l3 x13_2).f3.f1) = some r) ∧ Aside0 (kq ≤ kj25) ∧ Aside0 (wc.heap[gb101]? = some (.cells #[.int .u64 a2_0, .int .u64 a2_1] 24 (0, 0))) ∧ Aside0 (wc.heap[gb122]? = some (.cells #[.int .i64 ((rd_T48 l3 x13_2).f0), .int .u64 ((rd_T48 l3 x13_2).f1), .int .u64 ((rd_T48 l3 x13_2).f2), .int .u64 ((rd_T48 l3 x13_2).f3.f0), .int .u64 ((rd_T48 l3 x13_2).f3.f1)] 48 (0, 0))) ∧ Aside0 (IsS55 w wc g109 x110000_29 x110001_29 x110002_29 x110003_29 x110004_29) ∧ Aside0 (IsS51 w wc g118 x119000_29 x119001_29 x119002_29 x119003_29 x119004_29) ∧ Aside0 (Below w.heap.size w wc))
                          case first =>
                            have H := HC30.out
                            clear HC30
                            by_cases c36 : ((rd_T48 l3 x13_2).f0) = 0
                            · rw [if_pos c36] at H
                              have c36b0 : (((rd_T48 l3 x13_2).f0) == 0) = true := beq_iff_eq.mpr c36
                              have c36b1 : (((rd_T48 l3 x13_2).f0) != 0) = false := bne_eq_false_iff_eq.mpr c36
                              clear c36
                              (first | rw [c36b0] | (simp only [i64_w, i32_w]; rw [c36b0]) | skip)
                              replace H := Option.bind_eq_some_iff.mp H
                              obtain ⟨⟨t123, t124, t125, t126, t127, t128⟩, A370, H⟩ := H
                              replace H : ((tikref22_Clock_Go.f kj25 x119000_2 x119001_2 x119002_2 x119003_2 x119004_2 ((rd_T48 l3 x13_2).f1)).bind fun bt129 => (tiklaw22_ClockGoes.j3 kj25 l3 x13_2 (t123 == bt129.1) t124 t125 t126 t127 t128 bt129.2.1 bt129.2.2.1 bt129.2.2.2.1 bt129.2.2.2.2.1 bt129.2.2.2.2.2 ((rd_T48 l3 x13_2).f0) ((rd_T48 l3 x13_2).f1) ((rd_T48 l3 x13_2).f2) ((rd_T48 l3 x13_2).f3.f0) ((rd_T48 l3 x13_2).f3.f1))) = some r := H
                              have A37 := Aside0.mk A370
                              clear A370
                              replace H := Option.bind_eq_some_iff.mp H
                              obtain ⟨⟨t129, t130, t131, t132, t133, t134⟩, A380, H⟩ := H
                              replace H : (tiklaw22_ClockGoes.j3 kj25 l3 x13_2 (t123 == t129) t124 t125 t126 t127 t128 t130 t131 t132 t133 t134 ((rd_T48 l3 x13_2).f0) ((rd_T48 l3 x13_2).f1) ((rd_T48 l3 x13_2).f2) ((rd_T48 l3 x13_2).f3.f0) ((rd_T48 l3 x13_2).f3.f1)) = some r := H
                              have A38 := Aside0.mk A380
                              clear A380
                              have H' := Aside0.mk H
                              clear H
                              try go_wp2
                              have n0_ : Aside0 ((((((w31.setCell ⟨gb122, 0, none⟩ (.int .i64 ((rd_T48 l3 x13_2).f0))).setCell ⟨gb122, 1, none⟩ (.int .u64 ((rd_T48 l3 x13_2).f1))).setCell ⟨gb122, 2, none⟩ (.int .u64 ((rd_T48 l3 x13_2).f2))).setCell ⟨gb122, 3, none⟩ (.int .u64 ((rd_T48 l3 x13_2).f3.f0))).setCell ⟨gb122, 4, none⟩ (.int .u64 ((rd_T48 l3 x13_2).f3.f1))).heap[gb101]? = some (.cells #[.int .u64 a2_0, .int .u64 a2_1] 24 (0, 0))) := ⟨by (with_reducible repeat (first | refine blk_drewN ?_ _ | refine blk_drew ?_ | refine blk_alloc ?_ _)); refine blk_far ?_ NB101_122.out _; (with_reducible repeat (first | refine blk_drewN ?_ _ | refine blk_drew ?_ | refine blk_alloc ?_ _)); refine blk_far ?_ NB101_122.out _; (with_reducible repeat (first | refine blk_drewN ?_ _ | refine blk_drew ?_ | refine blk_alloc ?_ _)); refine blk_far ?_ NB101_122.out _; (with_reducible repeat (first | refine blk_drewN ?_ _ | refine blk_drew ?_ | refine blk_alloc ?_ _)); refine blk_far ?_ NB101_122.out _; (with_reducible repeat (first | refine blk_drewN ?_ _ | refine blk_drew ?_ | refine blk_alloc ?_ _)); refine blk_far ?_ NB101_122.out _; (with_reducible repeat (first | refine blk_drewN ?_ _ | refine blk_drew ?_ | refine blk_alloc ?_ _)); exact BK101.out⟩
                              have n1_ : Aside0 ((((((w31.setCell ⟨gb122, 0, none⟩ (.int .i64 ((rd_T48 l3 x13_2).f0))).setCell ⟨gb122, 1, none⟩ (.int .u64 ((rd_T48 l3 x13_2).f1))).setCell ⟨gb122, 2, none⟩ (.int .u64 ((rd_T48 l3 x13_2).f2))).setCell ⟨gb122, 3, none⟩ (.int .u64 ((rd_T48 l3 x13_2).f3.f0))).setCell ⟨gb122, 4, none⟩ (.int .u64 ((rd_T48 l3 x13_2).f3.f1))).heap[gb122]? = some (.cells #[.int .i64 ((rd_T48 l3 x13_2).f0), .int .u64 ((rd_T48 l3 x13_2).f1), .int .u64 ((rd_T48 l3 x13_2).f2), .int .u64 ((rd_T48 l3 x13_2).f3.f0), .int .u64 ((rd_T48 l3 x13_2).f3.f1)] 48 (0, 0))) := ⟨by (with_reducible repeat (first | refine blk_drewN ?_ _ | refine blk_drew ?_ | refine blk_alloc ?_ _)); refine blk_put (cs := #[.int .i64 ((rd_T48 l3 x13_2).f0), .int .u64 ((rd_T48 l3 x13_2).f1), .int .u64 ((rd_T48 l3 x13_2).f2), .int .u64 ((rd_T48 l3 x13_2).f3.f0), .int .u64 0]) ?_ 4 _ rfl; (with_reducible repeat (first | refine blk_drewN ?_ _ | refine blk_drew ?_ | refine blk_alloc ?_ _)); refine blk_put (cs := #[.int .i64 ((rd_T48 l3 x13_2).f0), .int .u64 ((rd_T48 l3 x13_2).f1), .int .u64 ((rd_T48 l3 x13_2).f2), .int .u64 0, .int .u64 0]) ?_ 3 _ rfl; (with_reducible repeat (first | refine blk_drewN ?_ _ | refine blk_drew ?_ | refine blk_alloc ?_ _)); refine blk_put (cs := #[.int .i64 ((rd_T48 l3 x13_2).f0), .int .u64 ((rd_T48 l3 x13_2).f1), .int .u64 0, .int .u64 0, .int .u64 0]) ?_ 2 _ rfl; (with_reducible repeat (first | refine blk_drewN ?_ _ | refine blk_drew ?_ | refine blk_alloc ?_ _)); refine blk_put (cs := #[.int .i64 ((rd_T48 l3 x13_2).f0), .int .u64 0, .int .u64 0, .int .u64 0, .int .u64 0]) ?_ 1 _ rfl; (with_reducible repeat (first | refine blk_drewN ?_ _ | refine blk_drew ?_ | refine blk_alloc ?_ _)); refine blk_put (cs := #[.int .i64 0, .int .u64 0, .int .u64 0, .int .u64 0, .int .u64 0]) ?_ 0 _ rfl; (with_reducible repeat (first | refine blk_drewN ?_ _ | refine blk_drew ?_ | refine blk_alloc ?_ _)); exact BK122.out⟩
                              have n2_ : Aside0 (IsS55 w (((((w31.setCell ⟨gb122, 0, none⟩ (.int .i64 ((rd_T48 l3 x13_2).f0))).setCell ⟨gb122, 1, none⟩ (.int .u64 ((rd_T48 l3 x13_2).f1))).setCell ⟨gb122, 2, none⟩ (.int .u64 ((rd_T48 l3 x13_2).f2))).setCell ⟨gb122, 3, none⟩ (.int .u64 ((rd_T48 l3 x13_2).f3.f0))).setCell ⟨gb122, 4, none⟩ (.int .u64 ((rd_T48 l3 x13_2).f3.f1))) g109 x110000_2 x110001_2 x110002_2 x110003_2 x110004_2) := ⟨by repeat (first | (with_reducible first | exact HI109.out | apply IsS55.alloc | apply IsS55.drewN | apply IsS55.drew | apply IsS55.set_0 | apply IsS55.set_1 | apply IsS55.set_2 | apply IsS55.set_3 | apply IsS55.set_4 | refine IsS55.far ?_ NB109_101.out _ | refine IsS55.far ?_ NB109_122.out _) | exact HI109.out)⟩
                              have n3_ : Aside0 (IsS51 w (((((w31.setCell ⟨gb122, 0, none⟩ (.int .i64 ((rd_T48 l3 x13_2).f0))).setCell ⟨gb122, 1, none⟩ (.int .u64 ((rd_T48 l3 x13_2).f1))).setCell ⟨gb122, 2, none⟩ (.int .u64 ((rd_T48 l3 x13_2).f2))).setCell ⟨gb122, 3, none⟩ (.int .u64 ((rd_T48 l3 x13_2).f3.f0))).setCell ⟨gb122, 4, none⟩ (.int .u64 ((rd_T48 l3 x13_2).f3.f1))) g118 x119000_2 x119001_2 x119002_2 x119003_2 x119004_2) := ⟨by repeat (first | (with_reducible first | exact HI118.out | apply IsS51.alloc | apply IsS51.drewN | apply IsS51.drew | apply IsS51.set_0 | apply IsS51.set_1 | apply IsS51.set_2 | apply IsS51.set_3 | apply IsS51.set_4 | refine IsS51.far ?_ NB118_101.out _ | refine IsS51.far ?_ NB118_122.out _) | exact HI118.out)⟩
                              have n4_ : Aside0 (Below w.heap.size w (((((w31.setCell ⟨gb122, 0, none⟩ (.int .i64 ((rd_T48 l3 x13_2).f0))).setCell ⟨gb122, 1, none⟩ (.int .u64 ((rd_T48 l3 x13_2).f1))).setCell ⟨gb122, 2, none⟩ (.int .u64 ((rd_T48 l3 x13_2).f2))).setCell ⟨gb122, 3, none⟩ (.int .u64 ((rd_T48 l3 x13_2).f3.f0))).setCell ⟨gb122, 4, none⟩ (.int .u64 ((rd_T48 l3 x13_2).f3.f1)))) := ⟨by repeat (first | (with_reducible first | exact HB.out | apply below_alloc | apply pw_below_drewN | apply below_drew1 | refine below_set ?_ (IsS55.ge HI109.out) | refine below_set ?_ (IsS51.ge HI118.out) | refine below_set ?_ GE101.out | refine below_set ?_ GE122.out) | exact HB.out)⟩
                              (try clear BK101)
                              (try clear BK122)
                              (try clear HI109)
                              (try clear HI118)
                              (try clear HB)
                              generalize (((((w31.setCell ⟨gb122, 0, none⟩ (.int .i64 ((rd_T48 l3 x13_2).f0))).setCell ⟨gb122, 1, none⟩ (.int .u64 ((rd_T48 l3 x13_2).f1))).setCell ⟨gb122, 2, none⟩ (.int .u64 ((rd_T48 l3 x13_2).f2))).setCell ⟨gb122, 3, none⟩ (.int .u64 ((rd_T48 l3 x13_2).f3.f0))).setCell ⟨gb122, 4, none⟩ (.int .u64 ((rd_T48 l3 x13_2).f3.f1))) = w39 at n0_ n1_ n2_ n3_ n4_ ⊢
                              have BK101 := n0_
                              have BK122 := n1_
                              have HI109 := n2_
                              have HI118 := n3_
                              have HB := n4_
                              clear n0_ n1_ n2_ n3_ n4_
                              have n0_ := Aside0.mk (blk_drew BK101.out)
                              have n1_ := Aside0.mk (blk_drew BK122.out)
                              have n2_ := Aside0.mk (IsS55.drew HI109.out)
                              have n3_ := Aside0.mk (IsS51.drew HI118.out)
                              have n4_ := Aside0.mk (below_drew1 HB.out)
                              clear BK101
                              clear BK122
                              clear HI109
                              clear HI118
                              clear HB
                              have BK101 := n0_
                              have BK122 := n1_
                              have HI109 := n2_
                              have HI118 := n3_
                              have HB := n4_
                              clear n0_ n1_ n2_ n3_ n4_
                              refine start_ (n := 10) (S := fun w' => w'.cell? ⟨gb122, 0, none⟩ = some (.int .i64 ((rd_T48 l3 x13_2).f0)) ∧ w'.cell? ⟨gb122, 1, none⟩ = some (.int .u64 ((rd_T48 l3 x13_2).f1)) ∧ w'.cell? ⟨gb122, 2, none⟩ = some (.int .u64 ((rd_T48 l3 x13_2).f2)) ∧ w'.cell? ⟨gb122, 3, none⟩ = some (.int .u64 ((rd_T48 l3 x13_2).f3.f0)) ∧ w'.cell? ⟨gb122, 4, none⟩ = some (.int .u64 ((rd_T48 l3 x13_2).f3.f1))) (ds := []) #[false, false, false, false, false, false, false, false, false, false] (by kernel_rfl) rfl rfl ⟨(blk_cell BK122.out 0).trans rfl, (blk_cell BK122.out 1).trans rfl, (blk_cell BK122.out 2).trans rfl, (blk_cell BK122.out 3).trans rfl, (blk_cell BK122.out 4).trans rfl⟩ (fun hHeld => ?_); refine with_tabW tiklaw22_ClockGoes.tab16 tiklaw22_ClockGoes.bits16 (fun HT_ HW_ => ?_)
                              generalize w39.drew = w40 at BK101 BK122 HI109 HI118 HB hHeld ⊢
                              refine pure_ (i := 0) (N := some 65) (v := ?_) (a' := ?_) #[true, false, false, false, false, false, false, false, false, false] rfl rfl (any_of HT_.out (by kernel_rfl)) (fun _ _ _ h => h) (Or.inl ⟨by rfl, ?_⟩) ?_ ?_
                              rotate_left
                              · intro w'
                                go_simp
                                with_reducible rfl
                              rotate_left
                              · simp only [Act.put, List.setIfInBounds_toArray, List.set_cons_zero, List.set_cons_succ, i64_w, i32_w]
                                rfl
                              refine pure_ (i := 1) (N := some 66) (v := ?_) (a' := ?_) #[true, true, false, false, false, false, false, false, false, false] rfl rfl (any_of HT_.out (by kernel_rfl)) (fun _ _ _ h => h) (Or.inl ⟨by rfl, ?_⟩) ?_ ?_
                              rotate_left
                              · intro w'
                                go_simp
                                with_reducible rfl
                              rotate_left
                              · simp only [Act.put, List.setIfInBounds_toArray, List.set_cons_zero, List.set_cons_succ, i64_w, i32_w]
                                rfl
                              refine pure_ (i := 4) (N := some 69) (v := ?_) (a' := ?_) #[true, true, false, false, true, false, false, false, false, false] rfl rfl (any_of HT_.out (by kernel_rfl)) (fun _ _ _ h => h) (Or.inl ⟨by rfl, ?_⟩) ?_ ?_
                              rotate_left
                              · intro w'
                                go_simp
                                with_reducible rfl
                              rotate_left
                              · simp only [Act.put, List.setIfInBounds_toArray, List.set_cons_zero, List.set_cons_succ, i64_w, i32_w]
                                rfl
                              refine pure_ (i := 5) (N := some 70) (v := ?_) (a' := ?_) #[true, true, false, false, true, true, false, false, false, false] rfl rfl (any_of HT_.out (by kernel_rfl)) (fun _ _ _ h => h) (Or.inl ⟨by rfl, ?_⟩) ?_ ?_
                              rotate_left
                              · intro w'
                                go_simp
                                with_reducible rfl
                              rotate_left
                              · simp only [Act.put, List.setIfInBounds_toArray, List.set_cons_zero, List.set_cons_succ, i64_w, i32_w]
                                rfl
                              refine take_ (i := 2) (N := some 67) (v := ?_) (a' := ?_) #[true, true, true, false, true, true, false, false, false, false] rfl rfl (take_ofW HT_.out HW_.out (by kernel_rfl)) (fun _ _ _ h => h) (Or.inl ⟨by rfl, ?_⟩) hHeld ?_ ?_
                              rotate_left
                              · rintro w' ⟨s0, s1, s2, s3, s4⟩
                                go_simp
                                with_reducible rfl
                              rotate_left
                              · simp only [Act.put, List.setIfInBounds_toArray, List.set_cons_zero, List.set_cons_succ, i64_w, i32_w]
                                rfl
                              refine take_ (i := 6) (N := some 71) (v := ?_) (a' := ?_) #[true, true, true, false, true, true, true, false, false, false] rfl rfl (take_ofW HT_.out HW_.out (by kernel_rfl)) (fun _ _ _ h => h) (Or.inl ⟨by rfl, ?_⟩) hHeld ?_ ?_
                              rotate_left
                              · rintro w' ⟨s0, s1, s2, s3, s4⟩
                                go_simp
                                with_reducible rfl
                              rotate_left
                              · simp only [Act.put, List.setIfInBounds_toArray, List.set_cons_zero, List.set_cons_succ, i64_w, i32_w]
                                rfl
                              refine one_ (i := 3) (N := some 68) #[true, true, true, true, true, true, true, false, false, false] rfl rfl (one_of HT_.out (by kernel_rfl)) (by decide) (fun K hK => ?_)
                              refine goes_ Try.func10 (by kernel_rfl) rfl #[.pointer (some ⟨g109, 0, none⟩), .int .u64 ((rd_T48 l3 x13_2).f1)] (by rfl) rfl rfl (by (try simp only [List.map_toArray, List.map_cons, List.map_nil]); first | done | rfl | (simp only [List.length_drop, List.length_take]; rfl)) ?_
                              with_reducible refine (clock_Clock_Go.calls g109 x110000_2 x110001_2 x110002_2 x110003_2 x110004_2 ((rd_T48 l3 x13_2).f1) t123 t124 t125 t126 t127 t128 w _ ?side1 ?side2 A37.out).mono ?_
                              (case side1 => repeat (first | (with_reducible first | exact HI109.out | apply IsS55.alloc | apply IsS55.drewN | apply IsS55.drew | apply IsS55.set_0 | apply IsS55.set_1 | apply IsS55.set_2 | apply IsS55.set_3 | apply IsS55.set_4 | refine IsS55.far ?_ NB109_101.out _ | refine IsS55.far ?_ NB109_122.out _) | exact HI109.out))
                              (case side2 => repeat (first | (with_reducible first | exact HB.out | apply below_alloc | apply pw_below_drewN | apply below_drew1 | refine below_set ?_ (IsS55.ge HI109.out) | refine below_set ?_ (IsS51.ge HI118.out) | refine below_set ?_ GE101.out | refine below_set ?_ GE122.out) | exact HB.out))
                              rintro e w41 ⟨rfl, hi, hb, hk⟩
                              refine ⟨_, rfl, ?_⟩
                              have n0_ := Aside0.mk (KeepBut.blk hk (g' := gb101) (o := .cells #[.int .u64 a2_0, .int .u64 a2_1] 24 (0, 0)) (by (with_reducible repeat (first | refine blk_drewN ?_ _ | refine blk_drew ?_ | refine blk_alloc ?_ _)); exact BK101.out) NB101_109.out (by simp))
                              have n1_ := Aside0.mk (IsS51.kept (show IsS51 w _ g118 x119000_2 x119001_2 x119002_2 x119003_2 x119004_2 from by repeat (first | (with_reducible first | exact HI118.out | apply IsS51.alloc | apply IsS51.drewN | apply IsS51.drew | apply IsS51.set_0 | apply IsS51.set_1 | apply IsS51.set_2 | apply IsS51.set_3 | apply IsS51.set_4 | refine IsS51.far ?_ NB118_101.out _ | refine IsS51.far ?_ NB118_122.out _) | exact HI118.out)) ⟨hk.1, fun i_ hi_ hs_ => hk.2 i_ hi_ hs_ (by simp)⟩ (NB118_109.out))
                              have n2_ := Aside0.mk (KeepBut.blk hk (g' := gb122) (o := .cells #[.int .i64 ((rd_T48 l3 x13_2).f0), .int .u64 ((rd_T48 l3 x13_2).f1), .int .u64 ((rd_T48 l3 x13_2).f2), .int .u64 ((rd_T48 l3 x13_2).f3.f0), .int .u64 ((rd_T48 l3 x13_2).f3.f1)] 48 (0, 0)) (by (with_reducible repeat (first | refine blk_drewN ?_ _ | refine blk_drew ?_ | refine blk_alloc ?_ _)); exact BK122.out) NB122_109.out (by simp))
                              have n3_ := Aside0.mk (hb)
                              have n4_ := Aside0.mk (hi)
                              clear BK101
                              clear HI118
                              clear BK122
                              clear HB
                              clear HI109
                              have BK101 := n0_
                              have HI118 := n1_
                              have BK122 := n2_
                              have HB := n3_
                              have HI109 := n4_
                              clear n0_ n1_ n2_ n3_ n4_
                              (try clear hb)
                              (try clear hb2)
                              (try clear hk)
                              (try clear hi)
                              refine hK.out _ _ ⟨(blk_cell BK122.out 0).trans rfl, (blk_cell BK122.out 1).trans rfl, (blk_cell BK122.out 2).trans rfl, (blk_cell BK122.out 3).trans rfl, (blk_cell BK122.out 4).trans rfl⟩ (fun hHeld => ?_)
                              clear hK K
                              refine norm_ (a' := ?_) ?_ ?_
                              rotate_left
                              · show Act.put _ (some 68) _ = _
                                simp only [Act.put, List.setIfInBounds_toArray, List.set_cons_zero, List.set_cons_succ, i64_w, i32_w]
                                rfl
                              refine one_ (i := 7) (N := some 72) #[true, true, true, true, true, true, true, true, false, false] rfl rfl (one_of HT_.out (by kernel_rfl)) (by decide) (fun K hK => ?_)
                              refine goes_ Try.func18 (by kernel_rfl) rfl #[.pointer (some ⟨g118, 0, none⟩), .int .u64 ((rd_T48 l3 x13_2).f1)] (by rfl) rfl rfl (by (try simp only [List.map_toArray, List.map_cons, List.map_nil]); first | done | rfl | (simp only [List.length_drop, List.length_take]; rfl)) ?_
                              with_reducible refine (tikref22_Clock_Go.calls kj25 g118 x119000_2 x119001_2 x119002_2 x119003_2 x119004_2 ((rd_T48 l3 x13_2).f1) t129 t130 t131 t132 t133 t134 w _ ?side1 ?side2 A38.out).mono ?_
                              (case side1 => repeat (first | (with_reducible first | exact HI118.out | apply IsS51.alloc | apply IsS51.drewN | apply IsS51.drew | apply IsS51.set_0 | apply IsS51.set_1 | apply IsS51.set_2 | apply IsS51.set_3 | apply IsS51.set_4 | refine IsS51.far ?_ NB118_101.out _ | refine IsS51.far ?_ NB118_122.out _) | exact HI118.out))
                              (case side2 => repeat (first | (with_reducible first | exact HB.out | apply below_alloc | apply pw_below_drewN | apply below_drew1 | refine below_set ?_ (IsS55.ge HI109.out) | refine below_set ?_ (IsS51.ge HI118.out) | refine below_set ?_ GE101.out | refine below_set ?_ GE122.out) | exact HB.out))
                              rintro e w42 ⟨rfl, hi, hb, hk⟩
                              refine ⟨_, rfl, ?_⟩
                              have n0_ := Aside0.mk (KeepBut.blk hk (g' := gb101) (o := .cells #[.int .u64 a2_0, .int .u64 a2_1] 24 (0, 0)) (by (with_reducible repeat (first | refine blk_drewN ?_ _ | refine blk_drew ?_ | refine blk_alloc ?_ _)); exact BK101.out) NB101_118.out (by simp))
                              have n1_ := Aside0.mk (IsS55.kept (show IsS55 w _ g109 t124 t125 t126 t127 t128 from by repeat (first | (with_reducible first | exact HI109.out | apply IsS55.alloc | apply IsS55.drewN | apply IsS55.drew | apply IsS55.set_0 | apply IsS55.set_1 | apply IsS55.set_2 | apply IsS55.set_3 | apply IsS55.set_4 | refine IsS55.far ?_ NB109_101.out _ | refine IsS55.far ?_ NB109_122.out _) | exact HI109.out)) ⟨hk.1, fun i_ hi_ hs_ => hk.2 i_ hi_ hs_ (by simp)⟩ (NB109_118.out))
                              have n2_ := Aside0.mk (KeepBut.blk hk (g' := gb122) (o := .cells #[.int .i64 ((rd_T48 l3 x13_2).f0), .int .u64 ((rd_T48 l3 x13_2).f1), .int .u64 ((rd_T48 l3 x13_2).f2), .int .u64 ((rd_T48 l3 x13_2).f3.f0), .int .u64 ((rd_T48 l3 x13_2).f3.f1)] 48 (0, 0)) (by (with_reducible repeat (first | refine blk_drewN ?_ _ | refine blk_drew ?_ | refine blk_alloc ?_ _)); exact BK122.out) NB122_118.out (by simp))
                              have n3_ := Aside0.mk (hb)
                              have n4_ := Aside0.mk (hi)
                              clear BK101
                              clear HI109
                              clear BK122
                              clear HB
                              clear HI118
                              have BK101 := n0_
                              have HI109 := n1_
                              have BK122 := n2_
                              have HB := n3_
                              have HI118 := n4_
                              clear n0_ n1_ n2_ n3_ n4_
                              (try clear hb)
                              (try clear hb2)
                              (try clear hk)
                              (try clear hi)
                              refine hK.out _ _ ⟨(blk_cell BK122.out 0).trans rfl, (blk_cell BK122.out 1).trans rfl, (blk_cell BK122.out 2).trans rfl, (blk_cell BK122.out 3).trans rfl, (blk_cell BK122.out 4).trans rfl⟩ (fun hHeld => ?_)
                              clear hK K
                              refine norm_ (a' := ?_) ?_ ?_
                              rotate_left
                              · show Act.put _ (some 72) _ = _
                                simp only [Act.put, List.setIfInBounds_toArray, List.set_cons_zero, List.set_cons_succ, i64_w, i32_w]
                                rfl
                              refine pure_ (i := 8) (N := some 73) (v := ?_) (a' := ?_) #[true, true, true, true, true, true, true, true, true, false] rfl rfl (any_of HT_.out (by kernel_rfl)) (fun _ _ _ h => h) (Or.inl ⟨by rfl, ?_⟩) ?_ ?_
                              rotate_left
                              · intro w'
                                go_simp
                                with_reducible rfl
                              rotate_left
                              · simp only [Act.put, List.setIfInBounds_toArray, List.set_cons_zero, List.set_cons_succ, i64_w, i32_w]
                                rfl
                              refine pure_ (i := 9) (N := some 15) (v := ?_) (a' := ?_) #[true, true, true, true, true, true, true, true, true, true] rfl rfl (any_of HT_.out (by kernel_rfl)) (fun _ _ _ h => h) (Or.inl ⟨by rfl, ?_⟩) ?_ ?_
                              rotate_left
                              · intro w'
                                go_simp
                                with_reducible rfl
                              rotate_left
                              · simp only [Act.put, List.setIfInBounds_toArray, List.set_cons_zero, List.set_cons_succ, i64_w, i32_w]
                                rfl
                              refine done_ (done_of HT_.out (by kernel_rfl)) ?_
                              try go_wp2
                              go_meet
                              case rel => exact ⟨_, ((t123 == t129)), (t124), (t125), (t126), (t127), (t128), (t130), (t131), (t132), (t133), (t134), (by first | rfl | (simp; done) | (simp [*]; done)), H', ⟨by have := HJ14.out; have := HK2.out; have := HJ25.out; first | omega | exact Nat.le_refl _⟩, ⟨by (with_reducible repeat (first | refine blk_drewN ?_ _ | refine blk_drew ?_ | refine blk_alloc ?_ _)); exact BK101.out⟩, ⟨by (with_reducible repeat (first | refine blk_drewN ?_ _ | refine blk_drew ?_ | refine blk_alloc ?_ _)); exact BK122.out⟩, ⟨by repeat (first | (with_reducible first | exact HI109.out | apply IsS55.alloc | apply IsS55.drewN | apply IsS55.drew | apply IsS55.set_0 | apply IsS55.set_1 | apply IsS55.set_2 | apply IsS55.set_3 | apply IsS55.set_4 | refine IsS55.far ?_ NB109_101.out _ | refine IsS55.far ?_ NB109_122.out _) | exact HI109.out)⟩, ⟨by repeat (first | (with_reducible first | exact HI118.out | apply IsS51.alloc | apply IsS51.drewN | apply IsS51.drew | apply IsS51.set_0 | apply IsS51.set_1 | apply IsS51.set_2 | apply IsS51.set_3 | apply IsS51.set_4 | refine IsS51.far ?_ NB118_101.out _ | refine IsS51.far ?_ NB118_122.out _) | exact HI118.out)⟩, ⟨by repeat (first | (with_reducible first | exact HB.out | apply below_alloc | apply pw_below_drewN | apply below_drew1 | refine below_set ?_ (IsS55.ge HI109.out) | refine below_set ?_ (IsS51.ge HI118.out) | refine below_set ?_ GE101.out | refine below_set ?_ GE122.out) | exact HB.out)⟩⟩
                            · rw [if_neg c36] at H
                              have c36b0 : (((rd_T48 l3 x13_2).f0) == 0) = false := beq_eq_false_iff_ne.mpr c36
                              have c36b1 : (((rd_T48 l3 x13_2).f0) != 0) = true := bne_iff_ne.mpr c36
                              (first | rw [c36b0] | (simp only [i64_w, i32_w]; rw [c36b0]) | skip)
                              by_cases c43 : ((rd_T48 l3 x13_2).f0) = 1
                              · rw [if_pos c43] at H
                                have c43b0 : (((rd_T48 l3 x13_2).f0) == 1) = true := beq_iff_eq.mpr c43
                                have c43b1 : (((rd_T48 l3 x13_2).f0) != 1) = false := bne_eq_false_iff_eq.mpr c43
                                clear c43
                                replace H := Option.bind_eq_some_iff.mp H
                                obtain ⟨⟨t135, t136, t137, t138, t139, t140⟩, A440, H⟩ := H
                                replace H : ((tikref22_Clock_Set.f x119000_2 x119001_2 x119002_2 x119003_2 x119004_2 ((rd_T48 l3 x13_2).f1) ((rd_T48 l3 x13_2).f2)).bind fun bt141 => (tiklaw22_ClockGoes.j3 kj25 l3 x13_2 (t135 == bt141.1) t136 t137 t138 t139 t140 bt141.2.1 bt141.2.2.1 bt141.2.2.2.1 bt141.2.2.2.2.1 bt141.2.2.2.2.2 ((rd_T48 l3 x13_2).f0) ((rd_T48 l3 x13_2).f1) ((rd_T48 l3 x13_2).f2) ((rd_T48 l3 x13_2).f3.f0) ((rd_T48 l3 x13_2).f3.f1))) = some r := H
                                have A44 := Aside0.mk A440
                                clear A440
                                replace H := Option.bind_eq_some_iff.mp H
                                obtain ⟨⟨t141, t142, t143, t144, t145, t146⟩, A450, H⟩ := H
                                replace H : (tiklaw22_ClockGoes.j3 kj25 l3 x13_2 (t135 == t141) t136 t137 t138 t139 t140 t142 t143 t144 t145 t146 ((rd_T48 l3 x13_2).f0) ((rd_T48 l3 x13_2).f1) ((rd_T48 l3 x13_2).f2) ((rd_T48 l3 x13_2).f3.f0) ((rd_T48 l3 x13_2).f3.f1)) = some r := H
                                have A45 := Aside0.mk A450
                                clear A450
                                have H' := Aside0.mk H
                                clear H
                                try go_wp2
                                have n0_ : Aside0 ((((((w31.setCell ⟨gb122, 0, none⟩ (.int .i64 ((rd_T48 l3 x13_2).f0))).setCell ⟨gb122, 1, none⟩ (.int .u64 ((rd_T48 l3 x13_2).f1))).setCell ⟨gb122, 2, none⟩ (.int .u64 ((rd_T48 l3 x13_2).f2))).setCell ⟨gb122, 3, none⟩ (.int .u64 ((rd_T48 l3 x13_2).f3.f0))).setCell ⟨gb122, 4, none⟩ (.int .u64 ((rd_T48 l3 x13_2).f3.f1))).heap[gb101]? = some (.cells #[.int .u64 a2_0, .int .u64 a2_1] 24 (0, 0))) := ⟨by (with_reducible repeat (first | refine blk_drewN ?_ _ | refine blk_drew ?_ | refine blk_alloc ?_ _)); refine blk_far ?_ NB101_122.out _; (with_reducible repeat (first | refine blk_drewN ?_ _ | refine blk_drew ?_ | refine blk_alloc ?_ _)); refine blk_far ?_ NB101_122.out _; (with_reducible repeat (first | refine blk_drewN ?_ _ | refine blk_drew ?_ | refine blk_alloc ?_ _)); refine blk_far ?_ NB101_122.out _; (with_reducible repeat (first | refine blk_drewN ?_ _ | refine blk_drew ?_ | refine blk_alloc ?_ _)); refine blk_far ?_ NB101_122.out _; (with_reducible repeat (first | refine blk_drewN ?_ _ | refine blk_drew ?_ | refine blk_alloc ?_ _)); refine blk_far ?_ NB101_122.out _; (with_reducible repeat (first | refine blk_drewN ?_ _ | refine blk_drew ?_ | refine blk_alloc ?_ _)); exact BK101.out⟩
                                have n1_ : Aside0 ((((((w31.setCell ⟨gb122, 0, none⟩ (.int .i64 ((rd_T48 l3 x13_2).f0))).setCell ⟨gb122, 1, none⟩ (.int .u64 ((rd_T48 l3 x13_2).f1))).setCell ⟨gb122, 2, none⟩ (.int .u64 ((rd_T48 l3 x13_2).f2))).setCell ⟨gb122, 3, none⟩ (.int .u64 ((rd_T48 l3 x13_2).f3.f0))).setCell ⟨gb122, 4, none⟩ (.int .u64 ((rd_T48 l3 x13_2).f3.f1))).heap[gb122]? = some (.cells #[.int .i64 ((rd_T48 l3 x13_2).f0), .int .u64 ((rd_T48 l3 x13_2).f1), .int .u64 ((rd_T48 l3 x13_2).f2), .int .u64 ((rd_T48 l3 x13_2).f3.f0), .int .u64 ((rd_T48 l3 x13_2).f3.f1)] 48 (0, 0))) := ⟨by (with_reducible repeat (first | refine blk_drewN ?_ _ | refine blk_drew ?_ | refine blk_alloc ?_ _)); refine blk_put (cs := #[.int .i64 ((rd_T48 l3 x13_2).f0), .int .u64 ((rd_T48 l3 x13_2).f1), .int .u64 ((rd_T48 l3 x13_2).f2), .int .u64 ((rd_T48 l3 x13_2).f3.f0), .int .u64 0]) ?_ 4 _ rfl; (with_reducible repeat (first | refine blk_drewN ?_ _ | refine blk_drew ?_ | refine blk_alloc ?_ _)); refine blk_put (cs := #[.int .i64 ((rd_T48 l3 x13_2).f0), .int .u64 ((rd_T48 l3 x13_2).f1), .int .u64 ((rd_T48 l3 x13_2).f2), .int .u64 0, .int .u64 0]) ?_ 3 _ rfl; (with_reducible repeat (first | refine blk_drewN ?_ _ | refine blk_drew ?_ | refine blk_alloc ?_ _)); refine blk_put (cs := #[.int .i64 ((rd_T48 l3 x13_2).f0), .int .u64 ((rd_T48 l3 x13_2).f1), .int .u64 0, .int .u64 0, .int .u64 0]) ?_ 2 _ rfl; (with_reducible repeat (first | refine blk_drewN ?_ _ | refine blk_drew ?_ | refine blk_alloc ?_ _)); refine blk_put (cs := #[.int .i64 ((rd_T48 l3 x13_2).f0), .int .u64 0, .int .u64 0, .int .u64 0, .int .u64 0]) ?_ 1 _ rfl; (with_reducible repeat (first | refine blk_drewN ?_ _ | refine blk_drew ?_ | refine blk_alloc ?_ _)); refine blk_put (cs := #[.int .i64 0, .int .u64 0, .int .u64 0, .int .u64 0, .int .u64 0]) ?_ 0 _ rfl; (with_reducible repeat (first | refine blk_drewN ?_ _ | refine blk_drew ?_ | refine blk_alloc ?_ _)); exact BK122.out⟩
                                have n2_ : Aside0 (IsS55 w (((((w31.setCell ⟨gb122, 0, none⟩ (.int .i64 ((rd_T48 l3 x13_2).f0))).setCell ⟨gb122, 1, none⟩ (.int .u64 ((rd_T48 l3 x13_2).f1))).setCell ⟨gb122, 2, none⟩ (.int .u64 ((rd_T48 l3 x13_2).f2))).setCell ⟨gb122, 3, none⟩ (.int .u64 ((rd_T48 l3 x13_2).f3.f0))).setCell ⟨gb122, 4, none⟩ (.int .u64 ((rd_T48 l3 x13_2).f3.f1))) g109 x110000_2 x110001_2 x110002_2 x110003_2 x110004_2) := ⟨by repeat (first | (with_reducible first | exact HI109.out | apply IsS55.alloc | apply IsS55.drewN | apply IsS55.drew | apply IsS55.set_0 | apply IsS55.set_1 | apply IsS55.set_2 | apply IsS55.set_3 | apply IsS55.set_4 | refine IsS55.far ?_ NB109_101.out _ | refine IsS55.far ?_ NB109_122.out _) | exact HI109.out)⟩
                                have n3_ : Aside0 (IsS51 w (((((w31.setCell ⟨gb122, 0, none⟩ (.int .i64 ((rd_T48 l3 x13_2).f0))).setCell ⟨gb122, 1, none⟩ (.int .u64 ((rd_T48 l3 x13_2).f1))).setCell ⟨gb122, 2, none⟩ (.int .u64 ((rd_T48 l3 x13_2).f2))).setCell ⟨gb122, 3, none⟩ (.int .u64 ((rd_T48 l3 x13_2).f3.f0))).setCell ⟨gb122, 4, none⟩ (.int .u64 ((rd_T48 l3 x13_2).f3.f1))) g118 x119000_2 x119001_2 x119002_2 x119003_2 x119004_2) := ⟨by repeat (first | (with_reducible first | exact HI118.out | apply IsS51.alloc | apply IsS51.drewN | apply IsS51.drew | apply IsS51.set_0 | apply IsS51.set_1 | apply IsS51.set_2 | apply IsS51.set_3 | apply IsS51.set_4 | refine IsS51.far ?_ NB118_101.out _ | refine IsS51.far ?_ NB118_122.out _) | exact HI118.out)⟩
                                have n4_ : Aside0 (Below w.heap.size w (((((w31.setCell ⟨gb122, 0, none⟩ (.int .i64 ((rd_T48 l3 x13_2).f0))).setCell ⟨gb122, 1, none⟩ (.int .u64 ((rd_T48 l3 x13_2).f1))).setCell ⟨gb122, 2, none⟩ (.int .u64 ((rd_T48 l3 x13_2).f2))).setCell ⟨gb122, 3, none⟩ (.int .u64 ((rd_T48 l3 x13_2).f3.f0))).setCell ⟨gb122, 4, none⟩ (.int .u64 ((rd_T48 l3 x13_2).f3.f1)))) := ⟨by repeat (first | (with_reducible first | exact HB.out | apply below_alloc | apply pw_below_drewN | apply below_drew1 | refine below_set ?_ (IsS55.ge HI109.out) | refine below_set ?_ (IsS51.ge HI118.out) | refine below_set ?_ GE101.out | refine below_set ?_ GE122.out) | exact HB.out)⟩
                                (try clear BK101)
                                (try clear BK122)
                                (try clear HI109)
                                (try clear HI118)
                                (try clear HB)
                                generalize (((((w31.setCell ⟨gb122, 0, none⟩ (.int .i64 ((rd_T48 l3 x13_2).f0))).setCell ⟨gb122, 1, none⟩ (.int .u64 ((rd_T48 l3 x13_2).f1))).setCell ⟨gb122, 2, none⟩ (.int .u64 ((rd_T48 l3 x13_2).f2))).setCell ⟨gb122, 3, none⟩ (.int .u64 ((rd_T48 l3 x13_2).f3.f0))).setCell ⟨gb122, 4, none⟩ (.int .u64 ((rd_T48 l3 x13_2).f3.f1))) = w46 at n0_ n1_ n2_ n3_ n4_ ⊢
                                have BK101 := n0_
                                have BK122 := n1_
                                have HI109 := n2_
                                have HI118 := n3_
                                have HB := n4_
                                clear n0_ n1_ n2_ n3_ n4_
                                have n0_ := Aside0.mk (blk_drew BK101.out)
                                have n1_ := Aside0.mk (blk_drew BK122.out)
                                have n2_ := Aside0.mk (IsS55.drew HI109.out)
                                have n3_ := Aside0.mk (IsS51.drew HI118.out)
                                have n4_ := Aside0.mk (below_drew1 HB.out)
                                clear BK101
                                clear BK122
                                clear HI109
                                clear HI118
                                clear HB
                                have BK101 := n0_
                                have BK122 := n1_
                                have HI109 := n2_
                                have HI118 := n3_
                                have HB := n4_
                                clear n0_ n1_ n2_ n3_ n4_
                                refine start_ (n := 14) (S := fun w' => w'.cell? ⟨gb122, 0, none⟩ = some (.int .i64 ((rd_T48 l3 x13_2).f0)) ∧ w'.cell? ⟨gb122, 1, none⟩ = some (.int .u64 ((rd_T48 l3 x13_2).f1)) ∧ w'.cell? ⟨gb122, 2, none⟩ = some (.int .u64 ((rd_T48 l3 x13_2).f2)) ∧ w'.cell? ⟨gb122, 3, none⟩ = some (.int .u64 ((rd_T48 l3 x13_2).f3.f0)) ∧ w'.cell? ⟨gb122, 4, none⟩ = some (.int .u64 ((rd_T48 l3 x13_2).f3.f1))) (ds := []) #[false, false, false, false, false, false, false, false, false, false, false, false, false, false] (by kernel_rfl) rfl rfl ⟨(blk_cell BK122.out 0).trans rfl, (blk_cell BK122.out 1).trans rfl, (blk_cell BK122.out 2).trans rfl, (blk_cell BK122.out 3).trans rfl, (blk_cell BK122.out 4).trans rfl⟩ (fun hHeld => ?_); refine with_tabW tiklaw22_ClockGoes.tab18 tiklaw22_ClockGoes.bits18 (fun HT_ HW_ => ?_)
                                generalize w46.drew = w47 at BK101 BK122 HI109 HI118 HB hHeld ⊢
                                refine pure_ (i := 0) (N := some 76) (v := ?_) (a' := ?_) #[true, false, false, false, false, false, false, false, false, false, false, false, false, false] rfl rfl (any_of HT_.out (by kernel_rfl)) (fun _ _ _ h => h) (Or.inl ⟨by rfl, ?_⟩) ?_ ?_
                                rotate_left
                                · intro w'
                                  go_simp
                                  with_reducible rfl
                                rotate_left
                                · simp only [Act.put, List.setIfInBounds_toArray, List.set_cons_zero, List.set_cons_succ, i64_w, i32_w]
                                  rfl
                                refine pure_ (i := 1) (N := some 77) (v := ?_) (a' := ?_) #[true, true, false, false, false, false, false, false, false, false, false, false, false, false] rfl rfl (any_of HT_.out (by kernel_rfl)) (fun _ _ _ h => h) (Or.inl ⟨by rfl, ?_⟩) ?_ ?_
                                rotate_left
                                · intro w'
                                  go_simp
                                  with_reducible rfl
                                rotate_left
                                · simp only [Act.put, List.setIfInBounds_toArray, List.set_cons_zero, List.set_cons_succ, i64_w, i32_w]
                                  rfl
                                refine pure_ (i := 3) (N := some 79) (v := ?_) (a' := ?_) #[true, true, false, true, false, false, false, false, false, false, false, false, false, false] rfl rfl (any_of HT_.out (by kernel_rfl)) (fun _ _ _ h => h) (Or.inl ⟨by rfl, ?_⟩) ?_ ?_
                                rotate_left
                                · intro w'
                                  go_simp
                                  with_reducible rfl
                                rotate_left
                                · simp only [Act.put, List.setIfInBounds_toArray, List.set_cons_zero, List.set_cons_succ, i64_w, i32_w]
                                  rfl
                                refine pure_ (i := 6) (N := some 82) (v := ?_) (a' := ?_) #[true, true, false, true, false, false, true, false, false, false, false, false, false, false] rfl rfl (any_of HT_.out (by kernel_rfl)) (fun _ _ _ h => h) (Or.inl ⟨by rfl, ?_⟩) ?_ ?_
                                rotate_left
                                · intro w'
                                  go_simp
                                  with_reducible rfl
                                rotate_left
                                · simp only [Act.put, List.setIfInBounds_toArray, List.set_cons_zero, List.set_cons_succ, i64_w, i32_w]
                                  rfl
                                refine pure_ (i := 7) (N := some 83) (v := ?_) (a' := ?_) #[true, true, false, true, false, false, true, true, false, false, false, false, false, false] rfl rfl (any_of HT_.out (by kernel_rfl)) (fun _ _ _ h => h) (Or.inl ⟨by rfl, ?_⟩) ?_ ?_
                                rotate_left
                                · intro w'
                                  go_simp
                                  with_reducible rfl
                                rotate_left
                                · simp only [Act.put, List.setIfInBounds_toArray, List.set_cons_zero, List.set_cons_succ, i64_w, i32_w]
                                  rfl
                                refine pure_ (i := 9) (N := some 85) (v := ?_) (a' := ?_) #[true, true, false, true, false, false, true, true, false, true, false, false, false, false] rfl rfl (any_of HT_.out (by kernel_rfl)) (fun _ _ _ h => h) (Or.inl ⟨by rfl, ?_⟩) ?_ ?_
                                rotate_left
                                · intro w'
                                  go_simp
                                  with_reducible rfl
                                rotate_left
                                · simp only [Act.put, List.setIfInBounds_toArray, List.set_cons_zero, List.set_cons_succ, i64_w, i32_w]
                                  rfl
                                refine take_ (i := 2) (N := some 78) (v := ?_) (a' := ?_) #[true, true, true, true, false, false, true, true, false, true, false, false, false, false] rfl rfl (take_ofW HT_.out HW_.out (by kernel_rfl)) (fun _ _ _ h => h) (Or.inl ⟨by rfl, ?_⟩) hHeld ?_ ?_
                                rotate_left
                                · rintro w' ⟨s0, s1, s2, s3, s4⟩
                                  go_simp
                                  with_reducible rfl
                                rotate_left
                                · simp only [Act.put, List.setIfInBounds_toArray, List.set_cons_zero, List.set_cons_succ, i64_w, i32_w]
                                  rfl
                                refine take_ (i := 4) (N := some 80) (v := ?_) (a' := ?_) #[true, true, true, true, true, false, true, true, false, true, false, false, false, false] rfl rfl (take_ofW HT_.out HW_.out (by kernel_rfl)) (fun _ _ _ h => h) (Or.inl ⟨by rfl, ?_⟩) hHeld ?_ ?_
                                rotate_left
                                · rintro w' ⟨s0, s1, s2, s3, s4⟩
                                  go_simp
                                  with_reducible rfl
                                rotate_left
                                · simp only [Act.put, List.setIfInBounds_toArray, List.set_cons_zero, List.set_cons_succ, i64_w, i32_w]
                                  rfl
                                refine take_ (i := 8) (N := some 84) (v := ?_) (a' := ?_) #[true, true, true, true, true, false, true, true, true, true, false, false, false, false] rfl rfl (take_ofW HT_.out HW_.out (by kernel_rfl)) (fun _ _ _ h => h) (Or.inl ⟨by rfl, ?_⟩) hHeld ?_ ?_
                                rotate_left
                                · rintro w' ⟨s0, s1, s2, s3, s4⟩
                                  go_simp
                                  with_reducible rfl
                                rotate_left
                                · simp only [Act.put, List.setIfInBounds_toArray, List.set_cons_zero, List.set_cons_succ, i64_w, i32_w]
                                  rfl
                                refine take_ (i := 10) (N := some 86) (v := ?_) (a' := ?_) #[true, true, true, true, true, false, true, true, true, true, true, false, false, false] rfl rfl (take_ofW HT_.out HW_.out (by kernel_rfl)) (fun _ _ _ h => h) (Or.inl ⟨by rfl, ?_⟩) hHeld ?_ ?_
                                rotate_left
                                · rintro w' ⟨s0, s1, s2, s3, s4⟩
                                  go_simp
                                  with_reducible rfl
                                rotate_left
                                · simp only [Act.put, List.setIfInBounds_toArray, List.set_cons_zero, List.set_cons_succ, i64_w, i32_w]
                                  rfl
                                refine one_ (i := 5) (N := some 81) #[true, true, true, true, true, true, true, true, true, true, true, false, false, false] rfl rfl (one_of HT_.out (by kernel_rfl)) (by decide) (fun K hK => ?_)
                                refine goes_ Try.func15 (by kernel_rfl) rfl #[.pointer (some ⟨g109, 0, none⟩), .int .u64 ((rd_T48 l3 x13_2).f1), .int .u64 ((rd_T48 l3 x13_2).f2)] (by rfl) rfl rfl (by (try simp only [List.map_toArray, List.map_cons, List.map_nil]); first | done | rfl | (simp only [List.length_drop, List.length_take]; rfl)) ?_
                                with_reducible refine (clock_Clock_Set.calls g109 x110000_2 x110001_2 x110002_2 x110003_2 x110004_2 ((rd_T48 l3 x13_2).f1) ((rd_T48 l3 x13_2).f2) t135 t136 t137 t138 t139 t140 w _ ?side1 ?side2 A44.out).mono ?_
                                (case side1 => repeat (first | (with_reducible first | exact HI109.out | apply IsS55.alloc | apply IsS55.drewN | apply IsS55.drew | apply IsS55.set_0 | apply IsS55.set_1 | apply IsS55.set_2 | apply IsS55.set_3 | apply IsS55.set_4 | refine IsS55.far ?_ NB109_101.out _ | refine IsS55.far ?_ NB109_122.out _) | exact HI109.out))
                                (case side2 => repeat (first | (with_reducible first | exact HB.out | apply below_alloc | apply pw_below_drewN | apply below_drew1 | refine below_set ?_ (IsS55.ge HI109.out) | refine below_set ?_ (IsS51.ge HI118.out) | refine below_set ?_ GE101.out | refine below_set ?_ GE122.out) | exact HB.out))
                                rintro e w48 ⟨rfl, hi, hb, hk⟩
                                refine ⟨_, rfl, ?_⟩
                                have n0_ := Aside0.mk (KeepBut.blk hk (g' := gb101) (o := .cells #[.int .u64 a2_0, .int .u64 a2_1] 24 (0, 0)) (by (with_reducible repeat (first | refine blk_drewN ?_ _ | refine blk_drew ?_ | refine blk_alloc ?_ _)); exact BK101.out) NB101_109.out (by simp))
                                have n1_ := Aside0.mk (IsS51.kept (show IsS51 w _ g118 x119000_2 x119001_2 x119002_2 x119003_2 x119004_2 from by repeat (first | (with_reducible first | exact HI118.out | apply IsS51.alloc | apply IsS51.drewN | apply IsS51.drew | apply IsS51.set_0 | apply IsS51.set_1 | apply IsS51.set_2 | apply IsS51.set_3 | apply IsS51.set_4 | refine IsS51.far ?_ NB118_101.out _ | refine IsS51.far ?_ NB118_122.out _) | exact HI118.out)) ⟨hk.1, fun i_ hi_ hs_ => hk.2 i_ hi_ hs_ (by simp)⟩ (NB118_109.out))
                                have n2_ := Aside0.mk (KeepBut.blk hk (g' := gb122) (o := .cells #[.int .i64 ((rd_T48 l3 x13_2).f0), .int .u64 ((rd_T48 l3 x13_2).f1), .int .u64 ((rd_T48 l3 x13_2).f2), .int .u64 ((rd_T48 l3 x13_2).f3.f0), .int .u64 ((rd_T48 l3 x13_2).f3.f1)] 48 (0, 0)) (by (with_reducible repeat (first | refine blk_drewN ?_ _ | refine blk_drew ?_ | refine blk_alloc ?_ _)); exact BK122.out) NB122_109.out (by simp))
                                have n3_ := Aside0.mk (hb)
                                have n4_ := Aside0.mk (hi)
                                clear BK101
                                clear HI118
                                clear BK122
                                clear HB
                                clear HI109
                                have BK101 := n0_
                                have HI118 := n1_
                                have BK122 := n2_
                                have HB := n3_
                                have HI109 := n4_
                                clear n0_ n1_ n2_ n3_ n4_
                                (try clear hb)
                                (try clear hb2)
                                (try clear hk)
                                (try clear hi)
                                refine hK.out _ _ ⟨(blk_cell BK122.out 0).trans rfl, (blk_cell BK122.out 1).trans rfl, (blk_cell BK122.out 2).trans rfl, (blk_cell BK122.out 3).trans rfl, (blk_cell BK122.out 4).trans rfl⟩ (fun hHeld => ?_)
                                clear hK K
                                refine norm_ (a' := ?_) ?_ ?_
                                rotate_left
                                · show Act.put _ (some 81) _ = _
                                  simp only [Act.put, List.setIfInBounds_toArray, List.set_cons_zero, List.set_cons_succ, i64_w, i32_w]
                                  rfl
                                refine one_ (i := 11) (N := some 87) #[true, true, true, true, true, true, true, true, true, true, true, true, false, false] rfl rfl (one_of HT_.out (by kernel_rfl)) (by decide) (fun K hK => ?_)
                                refine goes_ Try.func19 (by kernel_rfl) rfl #[.pointer (some ⟨g118, 0, none⟩), .int .u64 ((rd_T48 l3 x13_2).f1), .int .u64 ((rd_T48 l3 x13_2).f2)] (by rfl) rfl rfl (by (try simp only [List.map_toArray, List.map_cons, List.map_nil]); first | done | rfl | (simp only [List.length_drop, List.length_take]; rfl)) ?_
                                with_reducible refine (tikref22_Clock_Set.calls g118 x119000_2 x119001_2 x119002_2 x119003_2 x119004_2 ((rd_T48 l3 x13_2).f1) ((rd_T48 l3 x13_2).f2) t141 t142 t143 t144 t145 t146 w _ ?side1 ?side2 A45.out).mono ?_
                                (case side1 => repeat (first | (with_reducible first | exact HI118.out | apply IsS51.alloc | apply IsS51.drewN | apply IsS51.drew | apply IsS51.set_0 | apply IsS51.set_1 | apply IsS51.set_2 | apply IsS51.set_3 | apply IsS51.set_4 | refine IsS51.far ?_ NB118_101.out _ | refine IsS51.far ?_ NB118_122.out _) | exact HI118.out))
                                (case side2 => repeat (first | (with_reducible first | exact HB.out | apply below_alloc | apply pw_below_drewN | apply below_drew1 | refine below_set ?_ (IsS55.ge HI109.out) | refine below_set ?_ (IsS51.ge HI118.out) | refine below_set ?_ GE101.out | refine below_set ?_ GE122.out) | exact HB.out))
                                rintro e w49 ⟨rfl, hi, hb, hk⟩
                                refine ⟨_, rfl, ?_⟩
                                have n0_ := Aside0.mk (KeepBut.blk hk (g' := gb101) (o := .cells #[.int .u64 a2_0, .int .u64 a2_1] 24 (0, 0)) (by (with_reducible repeat (first | refine blk_drewN ?_ _ | refine blk_drew ?_ | refine blk_alloc ?_ _)); exact BK101.out) NB101_118.out (by simp))
                                have n1_ := Aside0.mk (IsS55.kept (show IsS55 w _ g109 t136 t137 t138 t139 t140 from by repeat (first | (with_reducible first | exact HI109.out | apply IsS55.alloc | apply IsS55.drewN | apply IsS55.drew | apply IsS55.set_0 | apply IsS55.set_1 | apply IsS55.set_2 | apply IsS55.set_3 | apply IsS55.set_4 | refine IsS55.far ?_ NB109_101.out _ | refine IsS55.far ?_ NB109_122.out _) | exact HI109.out)) ⟨hk.1, fun i_ hi_ hs_ => hk.2 i_ hi_ hs_ (by simp)⟩ (NB109_118.out))
                                have n2_ := Aside0.mk (KeepBut.blk hk (g' := gb122) (o := .cells #[.int .i64 ((rd_T48 l3 x13_2).f0), .int .u64 ((rd_T48 l3 x13_2).f1), .int .u64 ((rd_T48 l3 x13_2).f2), .int .u64 ((rd_T48 l3 x13_2).f3.f0), .int .u64 ((rd_T48 l3 x13_2).f3.f1)] 48 (0, 0)) (by (with_reducible repeat (first | refine blk_drewN ?_ _ | refine blk_drew ?_ | refine blk_alloc ?_ _)); exact BK122.out) NB122_118.out (by simp))
                                have n3_ := Aside0.mk (hb)
                                have n4_ := Aside0.mk (hi)
                                clear BK101
                                clear HI109
                                clear BK122
                                clear HB
                                clear HI118
                                have BK101 := n0_
                                have HI109 := n1_
                                have BK122 := n2_
                                have HB := n3_
                                have HI118 := n4_
                                clear n0_ n1_ n2_ n3_ n4_
                                (try clear hb)
                                (try clear hb2)
                                (try clear hk)
                                (try clear hi)
                                refine hK.out _ _ ⟨(blk_cell BK122.out 0).trans rfl, (blk_cell BK122.out 1).trans rfl, (blk_cell BK122.out 2).trans rfl, (blk_cell BK122.out 3).trans rfl, (blk_cell BK122.out 4).trans rfl⟩ (fun hHeld => ?_)
                                clear hK K
                                refine norm_ (a' := ?_) ?_ ?_
                                rotate_left
                                · show Act.put _ (some 87) _ = _
                                  simp only [Act.put, List.setIfInBounds_toArray, List.set_cons_zero, List.set_cons_succ, i64_w, i32_w]
                                  rfl
                                refine pure_ (i := 12) (N := some 88) (v := ?_) (a' := ?_) #[true, true, true, true, true, true, true, true, true, true, true, true, true, false] rfl rfl (any_of HT_.out (by kernel_rfl)) (fun _ _ _ h => h) (Or.inl ⟨by rfl, ?_⟩) ?_ ?_
                                rotate_left
                                · intro w'
                                  go_simp
                                  with_reducible rfl
                                rotate_left
                                · simp only [Act.put, List.setIfInBounds_toArray, List.set_cons_zero, List.set_cons_succ, i64_w, i32_w]
                                  rfl
                                refine pure_ (i := 13) (N := some 15) (v := ?_) (a' := ?_) #[true, true, true, true, true, true, true, true, true, true, true, true, true, true] rfl rfl (any_of HT_.out (by kernel_rfl)) (fun _ _ _ h => h) (Or.inl ⟨by rfl, ?_⟩) ?_ ?_
                                rotate_left
                                · intro w'
                                  go_simp
                                  with_reducible rfl
                                rotate_left
                                · simp only [Act.put, List.setIfInBounds_toArray, List.set_cons_zero, List.set_cons_succ, i64_w, i32_w]
                                  rfl
                                refine done_ (done_of HT_.out (by kernel_rfl)) ?_
                                try go_wp2
                                go_meet
                                case rel => exact ⟨_, ((t135 == t141)), (t136), (t137), (t138), (t139), (t140), (t142), (t143), (t144), (t145), (t146), (by first | rfl | (simp; done) | (simp [*]; done)), H', ⟨by have := HJ14.out; have := HK2.out; have := HJ25.out; first | omega | exact Nat.le_refl _⟩, ⟨by (with_reducible repeat (first | refine blk_drewN ?_ _ | refine blk_drew ?_ | refine blk_alloc ?_ _)); exact BK101.out⟩, ⟨by (with_reducible repeat (first | refine blk_drewN ?_ _ | refine blk_drew ?_ | refine blk_alloc ?_ _)); exact BK122.out⟩, ⟨by repeat (first | (with_reducible first | exact HI109.out | apply IsS55.alloc | apply IsS55.drewN | apply IsS55.drew | apply IsS55.set_0 | apply IsS55.set_1 | apply IsS55.set_2 | apply IsS55.set_3 | apply IsS55.set_4 | refine IsS55.far ?_ NB109_101.out _ | refine IsS55.far ?_ NB109_122.out _) | exact HI109.out)⟩, ⟨by repeat (first | (with_reducible first | exact HI118.out | apply IsS51.alloc | apply IsS51.drewN | apply IsS51.drew | apply IsS51.set_0 | apply IsS51.set_1 | apply IsS51.set_2 | apply IsS51.set_3 | apply IsS51.set_4 | refine IsS51.far ?_ NB118_101.out _ | refine IsS51.far ?_ NB118_122.out _) | exact HI118.out)⟩, ⟨by repeat (first | (with_reducible first | exact HB.out | apply below_alloc | apply pw_below_drewN | apply below_drew1 | refine below_set ?_ (IsS55.ge HI109.out) | refine below_set ?_ (IsS51.ge HI118.out) | refine below_set ?_ GE101.out | refine below_set ?_ GE122.out) | exact HB.out)⟩⟩
                              · rw [if_neg c43] at H
                                have c43b0 : (((rd_T48 l3 x13_2).f0) == 1) = false := beq_eq_false_iff_ne.mpr c43
                                have c43b1 : (((rd_T48 l3 x13_2).f0) != 1) = true := bne_iff_ne.mpr c43
                                by_cases c50 : ((rd_T48 l3 x13_2).f0) = 2
                                · rw [if_pos c50] at H
                                  have c50b0 : (((rd_T48 l3 x13_2).f0) == 2) = true := beq_iff_eq.mpr c50
                                  have c50b1 : (((rd_T48 l3 x13_2).f0) != 2) = false := bne_eq_false_iff_eq.mpr c50
                                  clear c50
                                  replace H := Option.bind_eq_some_iff.mp H
                                  obtain ⟨⟨t147, t148, t149, t150, t151, t152⟩, A510, H⟩ := H
                                  replace H : ((tiklaw22_plain.f ((rd_T48 l3 x13_2).f3.f0) ((rd_T48 l3 x13_2).f3.f1)).bind fun bt153 => ((tikref22_Clock_Turn.f kj25 x119000_2 x119001_2 x119002_2 x119003_2 x119004_2 ((rd_T48 l3 x13_2).f1) bt153.1 bt153.2).bind fun bt155 => (tiklaw22_ClockGoes.j3 kj25 l3 x13_2 (t147 == bt155.1) t148 t149 t150 t151 t152 bt155.2.1 bt155.2.2.1 bt155.2.2.2.1 bt155.2.2.2.2.1 bt155.2.2.2.2.2 ((rd_T48 l3 x13_2).f0) ((rd_T48 l3 x13_2).f1) ((rd_T48 l3 x13_2).f2) ((rd_T48 l3 x13_2).f3.f0) ((rd_T48 l3 x13_2).f3.f1)))) = some r := H
                                  have A51 := Aside0.mk A510
                                  clear A510
                                  replace H := Option.bind_eq_some_iff.mp H
                                  obtain ⟨⟨t153, t154⟩, A520, H⟩ := H
                                  replace H : ((tikref22_Clock_Turn.f kj25 x119000_2 x119001_2 x119002_2 x119003_2 x119004_2 ((rd_T48 l3 x13_2).f1) t153 t154).bind fun bt155 => (tiklaw22_ClockGoes.j3 kj25 l3 x13_2 (t147 == bt155.1) t148 t149 t150 t151 t152 bt155.2.1 bt155.2.2.1 bt155.2.2.2.1 bt155.2.2.2.2.1 bt155.2.2.2.2.2 ((rd_T48 l3 x13_2).f0) ((rd_T48 l3 x13_2).f1) ((rd_T48 l3 x13_2).f2) ((rd_T48 l3 x13_2).f3.f0) ((rd_T48 l3 x13_2).f3.f1))) = some r := H
                                  have A52 := Aside0.mk A520
                                  clear A520
                                  replace H := Option.bind_eq_some_iff.mp H
                                  obtain ⟨⟨t155, t156, t157, t158, t159, t160⟩, A530, H⟩ := H
                                  replace H : (tiklaw22_ClockGoes.j3 kj25 l3 x13_2 (t147 == t155) t148 t149 t150 t151 t152 t156 t157 t158 t159 t160 ((rd_T48 l3 x13_2).f0) ((rd_T48 l3 x13_2).f1) ((rd_T48 l3 x13_2).f2) ((rd_T48 l3 x13_2).f3.f0) ((rd_T48 l3 x13_2).f3.f1)) = some r := H
                                  have A53 := Aside0.mk A530
                                  clear A530
                                  have H' := Aside0.mk H
                                  clear H
                                  try go_wp2
                                  have n0_ : Aside0 ((((((w31.setCell ⟨gb122, 0, none⟩ (.int .i64 ((rd_T48 l3 x13_2).f0))).setCell ⟨gb122, 1, none⟩ (.int .u64 ((rd_T48 l3 x13_2).f1))).setCell ⟨gb122, 2, none⟩ (.int .u64 ((rd_T48 l3 x13_2).f2))).setCell ⟨gb122, 3, none⟩ (.int .u64 ((rd_T48 l3 x13_2).f3.f0))).setCell ⟨gb122, 4, none⟩ (.int .u64 ((rd_T48 l3 x13_2).f3.f1))).heap[gb101]? = some (.cells #[.int .u64 a2_0, .int .u64 a2_1] 24 (0, 0))) := ⟨by (with_reducible repeat (first | refine blk_drewN ?_ _ | refine blk_drew ?_ | refine blk_alloc ?_ _)); refine blk_far ?_ NB101_122.out _; (with_reducible repeat (first | refine blk_drewN ?_ _ | refine blk_drew ?_ | refine blk_alloc ?_ _)); refine blk_far ?_ NB101_122.out _; (with_reducible repeat (first | refine blk_drewN ?_ _ | refine blk_drew ?_ | refine blk_alloc ?_ _)); refine blk_far ?_ NB101_122.out _; (with_reducible repeat (first | refine blk_drewN ?_ _ | refine blk_drew ?_ | refine blk_alloc ?_ _)); refine blk_far ?_ NB101_122.out _; (with_reducible repeat (first | refine blk_drewN ?_ _ | refine blk_drew ?_ | refine blk_alloc ?_ _)); refine blk_far ?_ NB101_122.out _; (with_reducible repeat (first | refine blk_drewN ?_ _ | refine blk_drew ?_ | refine blk_alloc ?_ _)); exact BK101.out⟩
                                  have n1_ : Aside0 ((((((w31.setCell ⟨gb122, 0, none⟩ (.int .i64 ((rd_T48 l3 x13_2).f0))).setCell ⟨gb122, 1, none⟩ (.int .u64 ((rd_T48 l3 x13_2).f1))).setCell ⟨gb122, 2, none⟩ (.int .u64 ((rd_T48 l3 x13_2).f2))).setCell ⟨gb122, 3, none⟩ (.int .u64 ((rd_T48 l3 x13_2).f3.f0))).setCell ⟨gb122, 4, none⟩ (.int .u64 ((rd_T48 l3 x13_2).f3.f1))).heap[gb122]? = some (.cells #[.int .i64 ((rd_T48 l3 x13_2).f0), .int .u64 ((rd_T48 l3 x13_2).f1), .int .u64 ((rd_T48 l3 x13_2).f2), .int .u64 ((rd_T48 l3 x13_2).f3.f0), .int .u64 ((rd_T48 l3 x13_2).f3.f1)] 48 (0, 0))) := ⟨by (with_reducible repeat (first | refine blk_drewN ?_ _ | refine blk_drew ?_ | refine blk_alloc ?_ _)); refine blk_put (cs := #[.int .i64 ((rd_T48 l3 x13_2).f0), .int .u64 ((rd_T48 l3 x13_2).f1), .int .u64 ((rd_T48 l3 x13_2).f2), .int .u64 ((rd_T48 l3 x13_2).f3.f0), .int .u64 0]) ?_ 4 _ rfl; (with_reducible repeat (first | refine blk_drewN ?_ _ | refine blk_drew ?_ | refine blk_alloc ?_ _)); refine blk_put (cs := #[.int .i64 ((rd_T48 l3 x13_2).f0), .int .u64 ((rd_T48 l3 x13_2).f1), .int .u64 ((rd_T48 l3 x13_2).f2), .int .u64 0, .int .u64 0]) ?_ 3 _ rfl; (with_reducible repeat (first | refine blk_drewN ?_ _ | refine blk_drew ?_ | refine blk_alloc ?_ _)); refine blk_put (cs := #[.int .i64 ((rd_T48 l3 x13_2).f0), .int .u64 ((rd_T48 l3 x13_2).f1), .int .u64 0, .int .u64 0, .int .u64 0]) ?_ 2 _ rfl; (with_reducible repeat (first | refine blk_drewN ?_ _ | refine blk_drew ?_ | refine blk_alloc ?_ _)); refine blk_put (cs := #[.int .i64 ((rd_T48 l3 x13_2).f0), .int .u64 0, .int .u64 0, .int .u64 0, .int .u64 0]) ?_ 1 _ rfl; (with_reducible repeat (first | refine blk_drewN ?_ _ | refine blk_drew ?_ | refine blk_alloc ?_ _)); refine blk_put (cs := #[.int .i64 0, .int .u64 0, .int .u64 0, .int .u64 0, .int .u64 0]) ?_ 0 _ rfl; (with_reducible repeat (first | refine blk_drewN ?_ _ | refine blk_drew ?_ | refine blk_alloc ?_ _)); exact BK122.out⟩
                                  have n2_ : Aside0 (IsS55 w (((((w31.setCell ⟨gb122, 0, none⟩ (.int .i64 ((rd_T48 l3 x13_2).f0))).setCell ⟨gb122, 1, none⟩ (.int .u64 ((rd_T48 l3 x13_2).f1))).setCell ⟨gb122, 2, none⟩ (.int .u64 ((rd_T48 l3 x13_2).f2))).setCell ⟨gb122, 3, none⟩ (.int .u64 ((rd_T48 l3 x13_2).f3.f0))).setCell ⟨gb122, 4, none⟩ (.int .u64 ((rd_T48 l3 x13_2).f3.f1))) g109 x110000_2 x110001_2 x110002_2 x110003_2 x110004_2) := ⟨by repeat (first | (with_reducible first | exact HI109.out | apply IsS55.alloc | apply IsS55.drewN | apply IsS55.drew | apply IsS55.set_0 | apply IsS55.set_1 | apply IsS55.set_2 | apply IsS55.set_3 | apply IsS55.set_4 | refine IsS55.far ?_ NB109_101.out _ | refine IsS55.far ?_ NB109_122.out _) | exact HI109.out)⟩
                                  have n3_ : Aside0 (IsS51 w (((((w31.setCell ⟨gb122, 0, none⟩ (.int .i64 ((rd_T48 l3 x13_2).f0))).setCell ⟨gb122, 1, none⟩ (.int .u64 ((rd_T48 l3 x13_2).f1))).setCell ⟨gb122, 2, none⟩ (.int .u64 ((rd_T48 l3 x13_2).f2))).setCell ⟨gb122, 3, none⟩ (.int .u64 ((rd_T48 l3 x13_2).f3.f0))).setCell ⟨gb122, 4, none⟩ (.int .u64 ((rd_T48 l3 x13_2).f3.f1))) g118 x119000_2 x119001_2 x119002_2 x119003_2 x119004_2) := ⟨by repeat (first | (with_reducible first | exact HI118.out | apply IsS51.alloc | apply IsS51.drewN | apply IsS51.drew | apply IsS51.set_0 | apply IsS51.set_1 | apply IsS51.set_2 | apply IsS51.set_3 | apply IsS51.set_4 | refine IsS51.far ?_ NB118_101.out _ | refine IsS51.far ?_ NB118_122.out _) | exact HI118.out)⟩
                                  have n4_ : Aside0 (Below w.heap.size w (((((w31.setCell ⟨gb122, 0, none⟩ (.int .i64 ((rd_T48 l3 x13_2).f0))).setCell ⟨gb122, 1, none⟩ (.int .u64 ((rd_T48 l3 x13_2).f1))).setCell ⟨gb122, 2, none⟩ (.int .u64 ((rd_T48 l3 x13_2).f2))).setCell ⟨gb122, 3, none⟩ (.int .u64 ((rd_T48 l3 x13_2).f3.f0))).setCell ⟨gb122, 4, none⟩ (.int .u64 ((rd_T48 l3 x13_2).f3.f1)))) := ⟨by repeat (first | (with_reducible first | exact HB.out | apply below_alloc | apply pw_below_drewN | apply below_drew1 | refine below_set ?_ (IsS55.ge HI109.out) | refine below_set ?_ (IsS51.ge HI118.out) | refine below_set ?_ GE101.out | refine below_set ?_ GE122.out) | exact HB.out)⟩
                                  (try clear BK101)
                                  (try clear BK122)
                                  (try clear HI109)
                                  (try clear HI118)
                                  (try clear HB)
                                  generalize (((((w31.setCell ⟨gb122, 0, none⟩ (.int .i64 ((rd_T48 l3 x13_2).f0))).setCell ⟨gb122, 1, none⟩ (.int .u64 ((rd_T48 l3 x13_2).f1))).setCell ⟨gb122, 2, none⟩ (.int .u64 ((rd_T48 l3 x13_2).f2))).setCell ⟨gb122, 3, none⟩ (.int .u64 ((rd_T48 l3 x13_2).f3.f0))).setCell ⟨gb122, 4, none⟩ (.int .u64 ((rd_T48 l3 x13_2).f3.f1))) = w54 at n0_ n1_ n2_ n3_ n4_ ⊢
                                  have BK101 := n0_
                                  have BK122 := n1_
                                  have HI109 := n2_
                                  have HI118 := n3_
                                  have HB := n4_
                                  clear n0_ n1_ n2_ n3_ n4_
                                  have n0_ := Aside0.mk (blk_drew BK101.out)
                                  have n1_ := Aside0.mk (blk_drew BK122.out)
                                  have n2_ := Aside0.mk (IsS55.drew HI109.out)
                                  have n3_ := Aside0.mk (IsS51.drew HI118.out)
                                  have n4_ := Aside0.mk (below_drew1 HB.out)
                                  clear BK101
                                  clear BK122
                                  clear HI109
                                  clear HI118
                                  clear HB
                                  have BK101 := n0_
                                  have BK122 := n1_
                                  have HI109 := n2_
                                  have HI118 := n3_
                                  have HB := n4_
                                  clear n0_ n1_ n2_ n3_ n4_
                                  refine start_ (n := 15) (S := fun w' => w'.cell? ⟨gb122, 0, none⟩ = some (.int .i64 ((rd_T48 l3 x13_2).f0)) ∧ w'.cell? ⟨gb122, 1, none⟩ = some (.int .u64 ((rd_T48 l3 x13_2).f1)) ∧ w'.cell? ⟨gb122, 2, none⟩ = some (.int .u64 ((rd_T48 l3 x13_2).f2)) ∧ w'.cell? ⟨gb122, 3, none⟩ = some (.int .u64 ((rd_T48 l3 x13_2).f3.f0)) ∧ w'.cell? ⟨gb122, 4, none⟩ = some (.int .u64 ((rd_T48 l3 x13_2).f3.f1))) (ds := []) #[false, false, false, false, false, false, false, false, false, false, false, false, false, false, false] (by kernel_rfl) rfl rfl ⟨(blk_cell BK122.out 0).trans rfl, (blk_cell BK122.out 1).trans rfl, (blk_cell BK122.out 2).trans rfl, (blk_cell BK122.out 3).trans rfl, (blk_cell BK122.out 4).trans rfl⟩ (fun hHeld => ?_); refine with_tabW tiklaw22_ClockGoes.tab20 tiklaw22_ClockGoes.bits20 (fun HT_ HW_ => ?_)
                                  generalize w54.drew = w55 at BK101 BK122 HI109 HI118 HB hHeld ⊢
                                  refine pure_ (i := 0) (N := some 91) (v := ?_) (a' := ?_) #[true, false, false, false, false, false, false, false, false, false, false, false, false, false, false] rfl rfl (any_of HT_.out (by kernel_rfl)) (fun _ _ _ h => h) (Or.inl ⟨by rfl, ?_⟩) ?_ ?_
                                  rotate_left
                                  · intro w'
                                    go_simp
                                    with_reducible rfl
                                  rotate_left
                                  · simp only [Act.put, List.setIfInBounds_toArray, List.set_cons_zero, List.set_cons_succ, i64_w, i32_w]
                                    rfl
                                  refine pure_ (i := 1) (N := some 92) (v := ?_) (a' := ?_) #[true, true, false, false, false, false, false, false, false, false, false, false, false, false, false] rfl rfl (any_of HT_.out (by kernel_rfl)) (fun _ _ _ h => h) (Or.inl ⟨by rfl, ?_⟩) ?_ ?_
                                  rotate_left
                                  · intro w'
                                    go_simp
                                    with_reducible rfl
                                  rotate_left
                                  · simp only [Act.put, List.setIfInBounds_toArray, List.set_cons_zero, List.set_cons_succ, i64_w, i32_w]
                                    rfl
                                  refine pure_ (i := 3) (N := some 94) (v := ?_) (a' := ?_) #[true, true, false, true, false, false, false, false, false, false, false, false, false, false, false] rfl rfl (any_of HT_.out (by kernel_rfl)) (fun _ _ _ h => h) (Or.inl ⟨by rfl, ?_⟩) ?_ ?_
                                  rotate_left
                                  · intro w'
                                    go_simp
                                    with_reducible rfl
                                  rotate_left
                                  · simp only [Act.put, List.setIfInBounds_toArray, List.set_cons_zero, List.set_cons_succ, i64_w, i32_w]
                                    rfl
                                  refine pure_ (i := 6) (N := some 97) (v := ?_) (a' := ?_) #[true, true, false, true, false, false, true, false, false, false, false, false, false, false, false] rfl rfl (any_of HT_.out (by kernel_rfl)) (fun _ _ _ h => h) (Or.inl ⟨by rfl, ?_⟩) ?_ ?_
                                  rotate_left
                                  · intro w'
                                    go_simp
                                    with_reducible rfl
                                  rotate_left
                                  · simp only [Act.put, List.setIfInBounds_toArray, List.set_cons_zero, List.set_cons_succ, i64_w, i32_w]
                                    rfl
                                  refine pure_ (i := 7) (N := some 98) (v := ?_) (a' := ?_) #[true, true, false, true, false, false, true, true, false, false, false, false, false, false, false] rfl rfl (any_of HT_.out (by kernel_rfl)) (fun _ _ _ h => h) (Or.inl ⟨by rfl, ?_⟩) ?_ ?_
                                  rotate_left
                                  · intro w'
                                    go_simp
                                    with_reducible rfl
                                  rotate_left
                                  · simp only [Act.put, List.setIfInBounds_toArray, List.set_cons_zero, List.set_cons_succ, i64_w, i32_w]
                                    rfl
                                  refine pure_ (i := 9) (N := some 100) (v := ?_) (a' := ?_) #[true, true, false, true, false, false, true, true, false, true, false, false, false, false, false] rfl rfl (any_of HT_.out (by kernel_rfl)) (fun _ _ _ h => h) (Or.inl ⟨by rfl, ?_⟩) ?_ ?_
                                  rotate_left
                                  · intro w'
                                    go_simp
                                    with_reducible rfl
                                  rotate_left
                                  · simp only [Act.put, List.setIfInBounds_toArray, List.set_cons_zero, List.set_cons_succ, i64_w, i32_w]
                                    rfl
                                  refine take_ (i := 2) (N := some 93) (v := ?_) (a' := ?_) #[true, true, true, true, false, false, true, true, false, true, false, false, false, false, false] rfl rfl (take_ofW HT_.out HW_.out (by kernel_rfl)) (fun _ _ _ h => h) (Or.inl ⟨by rfl, ?_⟩) hHeld ?_ ?_
                                  rotate_left
                                  · rintro w' ⟨s0, s1, s2, s3, s4⟩
                                    go_simp
                                    with_reducible rfl
                                  rotate_left
                                  · simp only [Act.put, List.setIfInBounds_toArray, List.set_cons_zero, List.set_cons_succ, i64_w, i32_w]
                                    rfl
                                  refine take_ (i := 4) (N := some 95) (v := ?_) (a' := ?_) #[true, true, true, true, true, false, true, true, false, true, false, false, false, false, false] rfl rfl (take_ofW HT_.out HW_.out (by kernel_rfl)) (fun _ _ _ h => h) (Or.inl ⟨by rfl, ?_⟩) hHeld ?_ ?_
                                  rotate_left
                                  · rintro w' ⟨s0, s1, s2, s3, s4⟩
                                    go_simp
                                    with_reducible rfl
                                  rotate_left
                                  · simp only [Act.put, List.setIfInBounds_toArray, List.set_cons_zero, List.set_cons_succ, i64_w, i32_w]
                                    rfl
                                  refine take_ (i := 8) (N := some 99) (v := ?_) (a' := ?_) #[true, true, true, true, true, false, true, true, true, true, false, false, false, false, false] rfl rfl (take_ofW HT_.out HW_.out (by kernel_rfl)) (fun _ _ _ h => h) (Or.inl ⟨by rfl, ?_⟩) hHeld ?_ ?_
                                  rotate_left
                                  · rintro w' ⟨s0, s1, s2, s3, s4⟩
                                    go_simp
                                    with_reducible rfl
                                  rotate_left
                                  · simp only [Act.put, List.setIfInBounds_toArray, List.set_cons_zero, List.set_cons_succ, i64_w, i32_w]
                                    rfl
                                  refine take_ (i := 10) (N := some 101) (v := ?_) (a' := ?_) #[true, true, true, true, true, false, true, true, true, true, true, false, false, false, false] rfl rfl (take_ofW HT_.out HW_.out (by kernel_rfl)) (fun _ _ _ h => h) (Or.inl ⟨by rfl, ?_⟩) hHeld ?_ ?_
                                  rotate_left
                                  · rintro w' ⟨s0, s1, s2, s3, s4⟩
                                    go_simp
                                    with_reducible rfl
                                  rotate_left
                                  · simp only [Act.put, List.setIfInBounds_toArray, List.set_cons_zero, List.set_cons_succ, i64_w, i32_w]
                                    rfl
                                  refine one_ (i := 5) (N := some 96) #[true, true, true, true, true, true, true, true, true, true, true, false, false, false, false] rfl rfl (one_of HT_.out (by kernel_rfl)) (by decide) (fun K hK => ?_)
                                  refine goes_ Try.func14 (by kernel_rfl) rfl #[.pointer (some ⟨g109, 0, none⟩), .int .u64 ((rd_T48 l3 x13_2).f1), .agg #[.int .u64 ((rd_T48 l3 x13_2).f3.f0), .int .u64 ((rd_T48 l3 x13_2).f3.f1)]] (by rfl) rfl rfl (by (try simp only [List.map_toArray, List.map_cons, List.map_nil]); first | done | rfl | (simp only [List.length_drop, List.length_take]; rfl)) ?_
                                  with_reducible refine (clock_Clock_Turn.calls kj25 g109 x110000_2 x110001_2 x110002_2 x110003_2 x110004_2 ((rd_T48 l3 x13_2).f1) ((rd_T48 l3 x13_2).f3.f0) ((rd_T48 l3 x13_2).f3.f1) t147 t148 t149 t150 t151 t152 w _ ?side1 ?side2 A51.out).mono ?_
                                  (case side1 => repeat (first | (with_reducible first | exact HI109.out | apply IsS55.alloc | apply IsS55.drewN | apply IsS55.drew | apply IsS55.set_0 | apply IsS55.set_1 | apply IsS55.set_2 | apply IsS55.set_3 | apply IsS55.set_4 | refine IsS55.far ?_ NB109_101.out _ | refine IsS55.far ?_ NB109_122.out _) | exact HI109.out))
                                  (case side2 => repeat (first | (with_reducible first | exact HB.out | apply below_alloc | apply pw_below_drewN | apply below_drew1 | refine below_set ?_ (IsS55.ge HI109.out) | refine below_set ?_ (IsS51.ge HI118.out) | refine below_set ?_ GE101.out | refine below_set ?_ GE122.out) | exact HB.out))
                                  rintro e w56 ⟨rfl, hi, hb, hk⟩
                                  refine ⟨_, rfl, ?_⟩
                                  have n0_ := Aside0.mk (KeepBut.blk hk (g' := gb101) (o := .cells #[.int .u64 a2_0, .int .u64 a2_1] 24 (0, 0)) (by (with_reducible repeat (first | refine blk_drewN ?_ _ | refine blk_drew ?_ | refine blk_alloc ?_ _)); exact BK101.out) NB101_109.out (by simp))
                                  have n1_ := Aside0.mk (IsS51.kept (show IsS51 w _ g118 x119000_2 x119001_2 x119002_2 x119003_2 x119004_2 from by repeat (first | (with_reducible first | exact HI118.out | apply IsS51.alloc | apply IsS51.drewN | apply IsS51.drew | apply IsS51.set_0 | apply IsS51.set_1 | apply IsS51.set_2 | apply IsS51.set_3 | apply IsS51.set_4 | refine IsS51.far ?_ NB118_101.out _ | refine IsS51.far ?_ NB118_122.out _) | exact HI118.out)) ⟨hk.1, fun i_ hi_ hs_ => hk.2 i_ hi_ hs_ (by simp)⟩ (NB118_109.out))
                                  have n2_ := Aside0.mk (KeepBut.blk hk (g' := gb122) (o := .cells #[.int .i64 ((rd_T48 l3 x13_2).f0), .int .u64 ((rd_T48 l3 x13_2).f1), .int .u64 ((rd_T48 l3 x13_2).f2), .int .u64 ((rd_T48 l3 x13_2).f3.f0), .int .u64 ((rd_T48 l3 x13_2).f3.f1)] 48 (0, 0)) (by (with_reducible repeat (first | refine blk_drewN ?_ _ | refine blk_drew ?_ | refine blk_alloc ?_ _)); exact BK122.out) NB122_109.out (by simp))
                                  have n3_ := Aside0.mk (hb)
                                  have n4_ := Aside0.mk (hi)
                                  clear BK101
                                  clear HI118
                                  clear BK122
                                  clear HB
                                  clear HI109
                                  have BK101 := n0_
                                  have HI118 := n1_
                                  have BK122 := n2_
                                  have HB := n3_
                                  have HI109 := n4_
                                  clear n0_ n1_ n2_ n3_ n4_
                                  (try clear hb)
                                  (try clear hb2)
                                  (try clear hk)
                                  (try clear hi)
                                  refine hK.out _ _ ⟨(blk_cell BK122.out 0).trans rfl, (blk_cell BK122.out 1).trans rfl, (blk_cell BK122.out 2).trans rfl, (blk_cell BK122.out 3).trans rfl, (blk_cell BK122.out 4).trans rfl⟩ (fun hHeld => ?_)
                                  clear hK K
                                  refine norm_ (a' := ?_) ?_ ?_
                                  rotate_left
                                  · show Act.put _ (some 96) _ = _
                                    simp only [Act.put, List.setIfInBounds_toArray, List.set_cons_zero, List.set_cons_succ, i64_w, i32_w]
                                    rfl
                                  refine one_ (i := 11) (N := some 102) #[true, true, true, true, true, true, true, true, true, true, true, true, false, false, false] rfl rfl (one_of HT_.out (by kernel_rfl)) (by decide) (fun K hK => ?_)
                                  refine goes_ Try.func17 (by kernel_rfl) rfl #[.agg #[.int .u64 ((rd_T48 l3 x13_2).f3.f0), .int .u64 ((rd_T48 l3 x13_2).f3.f1)]] (by rfl) rfl rfl (by (try simp only [List.map_toArray, List.map_cons, List.map_nil]); first | done | rfl | (simp only [List.length_drop, List.length_take]; rfl)) ?_
                                  with_reducible refine (tiklaw22_plain.calls ((rd_T48 l3 x13_2).f3.f0) ((rd_T48 l3 x13_2).f3.f1) t153 t154 _ A52.out).mono ?_
                                  rintro e w57 ⟨rfl, hb⟩
                                  refine ⟨_, rfl, ?_⟩
                                  have n0_ := Aside0.mk (blk_below (g := gb101) (o := .cells #[.int .u64 a2_0, .int .u64 a2_1] 24 (0, 0)) (by (with_reducible repeat (first | refine blk_drewN ?_ _ | refine blk_drew ?_ | refine blk_alloc ?_ _)); exact BK101.out) hb)
                                  have n1_ := Aside0.mk (IsS55.below (by repeat (first | (with_reducible first | exact HI109.out | apply IsS55.alloc | apply IsS55.drewN | apply IsS55.drew | apply IsS55.set_0 | apply IsS55.set_1 | apply IsS55.set_2 | apply IsS55.set_3 | apply IsS55.set_4 | refine IsS55.far ?_ NB109_101.out _ | refine IsS55.far ?_ NB109_122.out _) | exact HI109.out)) hb)
                                  have n2_ := Aside0.mk (IsS51.below (by repeat (first | (with_reducible first | exact HI118.out | apply IsS51.alloc | apply IsS51.drewN | apply IsS51.drew | apply IsS51.set_0 | apply IsS51.set_1 | apply IsS51.set_2 | apply IsS51.set_3 | apply IsS51.set_4 | refine IsS51.far ?_ NB118_101.out _ | refine IsS51.far ?_ NB118_122.out _) | exact HI118.out)) hb)
                                  have n3_ := Aside0.mk (blk_below (g := gb122) (o := .cells #[.int .i64 ((rd_T48 l3 x13_2).f0), .int .u64 ((rd_T48 l3 x13_2).f1), .int .u64 ((rd_T48 l3 x13_2).f2), .int .u64 ((rd_T48 l3 x13_2).f3.f0), .int .u64 ((rd_T48 l3 x13_2).f3.f1)] 48 (0, 0)) (by (with_reducible repeat (first | refine blk_drewN ?_ _ | refine blk_drew ?_ | refine blk_alloc ?_ _)); exact BK122.out) hb)
                                  have n4_ := Aside0.mk (below_step (by repeat (first | (with_reducible first | exact HB.out | apply below_alloc | apply pw_below_drewN | apply below_drew1 | refine below_set ?_ (IsS55.ge HI109.out) | refine below_set ?_ (IsS51.ge HI118.out) | refine below_set ?_ GE101.out | refine below_set ?_ GE122.out) | exact HB.out)) hb)
                                  clear BK101
                                  clear HI109
                                  clear HI118
                                  clear BK122
                                  clear HB
                                  have BK101 := n0_
                                  have HI109 := n1_
                                  have HI118 := n2_
                                  have BK122 := n3_
                                  have HB := n4_
                                  clear n0_ n1_ n2_ n3_ n4_
                                  (try clear hb)
                                  (try clear hb2)
                                  (try clear hk)
                                  (try clear hi)
                                  refine hK.out _ _ ⟨(blk_cell BK122.out 0).trans rfl, (blk_cell BK122.out 1).trans rfl, (blk_cell BK122.out 2).trans rfl, (blk_cell BK122.out 3).trans rfl, (blk_cell BK122.out 4).trans rfl⟩ (fun hHeld => ?_)
                                  clear hK K
                                  refine norm_ (a' := ?_) ?_ ?_
                                  rotate_left
                                  · show Act.put _ (some 102) _ = _
                                    simp only [Act.put, List.setIfInBounds_toArray, List.set_cons_zero, List.set_cons_succ, i64_w, i32_w]
                                    rfl
                                  refine one_ (i := 12) (N := some 103) #[true, true, true, true, true, true, true, true, true, true, true, true, true, false, false] rfl rfl (one_of HT_.out (by kernel_rfl)) (by decide) (fun K hK => ?_)
                                  refine goes_ Try.func20 (by kernel_rfl) rfl #[.pointer (some ⟨g118, 0, none⟩), .int .u64 ((rd_T48 l3 x13_2).f1), .agg #[.int .u64 t153, .int .u64 t154]] (by rfl) rfl rfl (by (try simp only [List.map_toArray, List.map_cons, List.map_nil]); first | done | rfl | (simp only [List.length_drop, List.length_take]; rfl)) ?_
                                  with_reducible refine (tikref22_Clock_Turn.calls kj25 g118 x119000_2 x119001_2 x119002_2 x119003_2 x119004_2 ((rd_T48 l3 x13_2).f1) t153 t154 t155 t156 t157 t158 t159 t160 w _ ?side1 ?side2 A53.out).mono ?_
                                  (case side1 => repeat (first | (with_reducible first | exact HI118.out | apply IsS51.alloc | apply IsS51.drewN | apply IsS51.drew | apply IsS51.set_0 | apply IsS51.set_1 | apply IsS51.set_2 | apply IsS51.set_3 | apply IsS51.set_4 | refine IsS51.far ?_ NB118_101.out _ | refine IsS51.far ?_ NB118_122.out _) | exact HI118.out))
                                  (case side2 => repeat (first | (with_reducible first | exact HB.out | apply below_alloc | apply pw_below_drewN | apply below_drew1 | refine below_set ?_ (IsS55.ge HI109.out) | refine below_set ?_ (IsS51.ge HI118.out) | refine below_set ?_ GE101.out | refine below_set ?_ GE122.out) | exact HB.out))
                                  rintro e w58 ⟨rfl, hi, hb, hk⟩
                                  refine ⟨_, rfl, ?_⟩
                                  have n0_ := Aside0.mk (KeepBut.blk hk (g' := gb101) (o := .cells #[.int .u64 a2_0, .int .u64 a2_1] 24 (0, 0)) (by (with_reducible repeat (first | refine blk_drewN ?_ _ | refine blk_drew ?_ | refine blk_alloc ?_ _)); exact BK101.out) NB101_118.out (by simp))
                                  have n1_ := Aside0.mk (IsS55.kept (show IsS55 w _ g109 t148 t149 t150 t151 t152 from by repeat (first | (with_reducible first | exact HI109.out | apply IsS55.alloc | apply IsS55.drewN | apply IsS55.drew | apply IsS55.set_0 | apply IsS55.set_1 | apply IsS55.set_2 | apply IsS55.set_3 | apply IsS55.set_4 | refine IsS55.far ?_ NB109_101.out _ | refine IsS55.far ?_ NB109_122.out _) | exact HI109.out)) ⟨hk.1, fun i_ hi_ hs_ => hk.2 i_ hi_ hs_ (by simp)⟩ (NB109_118.out))
                                  have n2_ := Aside0.mk (KeepBut.blk hk (g' := gb122) (o := .cells #[.int .i64 ((rd_T48 l3 x13_2).f0), .int .u64 ((rd_T48 l3 x13_2).f1), .int .u64 ((rd_T48 l3 x13_2).f2), .int .u64 ((rd_T48 l3 x13_2).f3.f0), .int .u64 ((rd_T48 l3 x13_2).f3.f1)] 48 (0, 0)) (by (with_reducible repeat (first | refine blk_drewN ?_ _ | refine blk_drew ?_ | refine blk_alloc ?_ _)); exact BK122.out) NB122_118.out (by simp))
                                  have n3_ := Aside0.mk (hb)
                                  have n4_ := Aside0.mk (hi)
                                  clear BK101
                                  clear HI109
                                  clear BK122
                                  clear HB
                                  clear HI118
                                  have BK101 := n0_
                                  have HI109 := n1_
                                  have BK122 := n2_
                                  have HB := n3_
                                  have HI118 := n4_
                                  clear n0_ n1_ n2_ n3_ n4_
                                  (try clear hb)
                                  (try clear hb2)
                                  (try clear hk)
                                  (try clear hi)
                                  refine hK.out _ _ ⟨(blk_cell BK122.out 0).trans rfl, (blk_cell BK122.out 1).trans rfl, (blk_cell BK122.out 2).trans rfl, (blk_cell BK122.out 3).trans rfl, (blk_cell BK122.out 4).trans rfl⟩ (fun hHeld => ?_)
                                  clear hK K
                                  refine norm_ (a' := ?_) ?_ ?_
                                  rotate_left
                                  · show Act.put _ (some 103) _ = _
                                    simp only [Act.put, List.setIfInBounds_toArray, List.set_cons_zero, List.set_cons_succ, i64_w, i32_w]
                                    rfl
                                  refine pure_ (i := 13) (N := some 104) (v := ?_) (a' := ?_) #[true, true, true, true, true, true, true, true, true, true, true, true, true, true, false] rfl rfl (any_of HT_.out (by kernel_rfl)) (fun _ _ _ h => h) (Or.inl ⟨by rfl, ?_⟩) ?_ ?_
                                  rotate_left
                                  · intro w'
                                    go_simp
                                    with_reducible rfl
                                  rotate_left
                                  · simp only [Act.put, List.setIfInBounds_toArray, List.set_cons_zero, List.set_cons_succ, i64_w, i32_w]
                                    rfl
                                  refine pure_ (i := 14) (N := some 15) (v := ?_) (a' := ?_) #[true, true, true, true, true, true, true, true, true, true, true, true, true, true, true] rfl rfl (any_of HT_.out (by kernel_rfl)) (fun _ _ _ h => h) (Or.inl ⟨by rfl, ?_⟩) ?_ ?_
                                  rotate_left
                                  · intro w'
                                    go_simp
                                    with_reducible rfl
                                  rotate_left
                                  · simp only [Act.put, List.setIfInBounds_toArray, List.set_cons_zero, List.set_cons_succ, i64_w, i32_w]
                                    rfl
                                  refine done_ (done_of HT_.out (by kernel_rfl)) ?_
                                  try go_wp2
                                  go_meet
                                  case rel => exact ⟨_, ((t147 == t155)), (t148), (t149), (t150), (t151), (t152), (t156), (t157), (t158), (t159), (t160), (by first | rfl | (simp; done) | (simp [*]; done)), H', ⟨by have := HJ14.out; have := HK2.out; have := HJ25.out; first | omega | exact Nat.le_refl _⟩, ⟨by (with_reducible repeat (first | refine blk_drewN ?_ _ | refine blk_drew ?_ | refine blk_alloc ?_ _)); exact BK101.out⟩, ⟨by (with_reducible repeat (first | refine blk_drewN ?_ _ | refine blk_drew ?_ | refine blk_alloc ?_ _)); exact BK122.out⟩, ⟨by repeat (first | (with_reducible first | exact HI109.out | apply IsS55.alloc | apply IsS55.drewN | apply IsS55.drew | apply IsS55.set_0 | apply IsS55.set_1 | apply IsS55.set_2 | apply IsS55.set_3 | apply IsS55.set_4 | refine IsS55.far ?_ NB109_101.out _ | refine IsS55.far ?_ NB109_122.out _) | exact HI109.out)⟩, ⟨by repeat (first | (with_reducible first | exact HI118.out | apply IsS51.alloc | apply IsS51.drewN | apply IsS51.drew | apply IsS51.set_0 | apply IsS51.set_1 | apply IsS51.set_2 | apply IsS51.set_3 | apply IsS51.set_4 | refine IsS51.far ?_ NB118_101.out _ | refine IsS51.far ?_ NB118_122.out _) | exact HI118.out)⟩, ⟨by repeat (first | (with_reducible first | exact HB.out | apply below_alloc | apply pw_below_drewN | apply below_drew1 | refine below_set ?_ (IsS55.ge HI109.out) | refine below_set ?_ (IsS51.ge HI118.out) | refine below_set ?_ GE101.out | refine below_set ?_ GE122.out) | exact HB.out)⟩⟩
                                · rw [if_neg c50] at H
                                  have c50b0 : (((rd_T48 l3 x13_2).f0) == 2) = false := beq_eq_false_iff_ne.mpr c50
                                  have c50b1 : (((rd_T48 l3 x13_2).f0) != 2) = true := bne_iff_ne.mpr c50
                                  have H' := Aside0.mk H
                                  clear H
                                  go_wp2
                                  go_meet
                                  case rel => exact ⟨_, (true), (x110000_2), (x110001_2), (x110002_2), (x110003_2), (x110004_2), (x119000_2), (x119001_2), (x119002_2), (x119003_2), (x119004_2), (by first | rfl | (simp; done) | (simp [*]; done)), H', ⟨by have := HJ14.out; have := HK2.out; have := HJ25.out; first | omega | exact Nat.le_refl _⟩, ⟨by (with_reducible repeat (first | refine blk_drewN ?_ _ | refine blk_drew ?_ | refine blk_alloc ?_ _)); refine blk_far ?_ NB101_122.out _; (with_reducible repeat (first | refine blk_drewN ?_ _ | refine blk_drew ?_ | refine blk_alloc ?_ _)); refine blk_far ?_ NB101_122.out _; (with_reducible repeat (first | refine blk_drewN ?_ _ | refine blk_drew ?_ | refine blk_alloc ?_ _)); refine blk_far ?_ NB101_122.out _; (with_reducible repeat (first | refine blk_drewN ?_ _ | refine blk_drew ?_ | refine blk_alloc ?_ _)); refine blk_far ?_ NB101_122.out _; (with_reducible repeat (first | refine blk_drewN ?_ _ | refine blk_drew ?_ | refine blk_alloc ?_ _)); refine blk_far ?_ NB101_122.out _; (with_reducible repeat (first | refine blk_drewN ?_ _ | refine blk_drew ?_ | refine blk_alloc ?_ _)); exact BK101.out⟩, ⟨by (with_reducible repeat (first | refine blk_drewN ?_ _ | refine blk_drew ?_ | refine blk_alloc ?_ _)); refine blk_put (cs := #[.int .i64 ((rd_T48 l3 x13_2).f0), .int .u64 ((rd_T48 l3 x13_2).f1), .int .u64 ((rd_T48 l3 x13_2).f2), .int .u64 ((rd_T48 l3 x13_2).f3.f0), .int .u64 0]) ?_ 4 _ rfl; (with_reducible repeat (first | refine blk_drewN ?_ _ | refine blk_drew ?_ | refine blk_alloc ?_ _)); refine blk_put (cs := #[.int .i64 ((rd_T48 l3 x13_2).f0), .int .u64 ((rd_T48 l3 x13_2).f1), .int .u64 ((rd_T48 l3 x13_2).f2), .int .u64 0, .int .u64 0]) ?_ 3 _ rfl; (with_reducible repeat (first | refine blk_drewN ?_ _ | refine blk_drew ?_ | refine blk_alloc ?_ _)); refine blk_put (cs := #[.int .i64 ((rd_T48 l3 x13_2).f0), .int .u64 ((rd_T48 l3 x13_2).f1), .int .u64 0, .int .u64 0, .int .u64 0]) ?_ 2 _ rfl; (with_reducible repeat (first | refine blk_drewN ?_ _ | refine blk_drew ?_ | refine blk_alloc ?_ _)); refine blk_put (cs := #[.int .i64 ((rd_T48 l3 x13_2).f0), .int .u64 0, .int .u64 0, .int .u64 0, .int .u64 0]) ?_ 1 _ rfl; (with_reducible repeat (first | refine blk_drewN ?_ _ | refine blk_drew ?_ | refine blk_alloc ?_ _)); refine blk_put (cs := #[.int .i64 0, .int .u64 0, .int .u64 0, .int .u64 0, .int .u64 0]) ?_ 0 _ rfl; (with_reducible repeat (first | refine blk_drewN ?_ _ | refine blk_drew ?_ | refine blk_alloc ?_ _)); exact BK122.out⟩, ⟨by repeat (first | (with_reducible first | exact HI109.out | apply IsS55.alloc | apply IsS55.drewN | apply IsS55.drew | apply IsS55.set_0 | apply IsS55.set_1 | apply IsS55.set_2 | apply IsS55.set_3 | apply IsS55.set_4 | refine IsS55.far ?_ NB109_101.out _ | refine IsS55.far ?_ NB109_122.out _) | exact HI109.out)⟩, ⟨by repeat (first | (with_reducible first | exact HI118.out | apply IsS51.alloc | apply IsS51.drewN | apply IsS51.drew | apply IsS51.set_0 | apply IsS51.set_1 | apply IsS51.set_2 | apply IsS51.set_3 | apply IsS51.set_4 | refine IsS51.far ?_ NB118_101.out _ | refine IsS51.far ?_ NB118_122.out _) | exact HI118.out)⟩, ⟨by repeat (first | (with_reducible first | exact HB.out | apply below_alloc | apply pw_below_drewN | apply below_drew1 | refine below_set ?_ (IsS55.ge HI109.out) | refine below_set ?_ (IsS51.ge HI118.out) | refine below_set ?_ GE101.out | refine below_set ?_ GE122.out) | exact HB.out)⟩⟩
                          case rest =>
                            clear HC30
                            try clear c1
                            try clear c2
                            try clear p2
                            try clear c3
                            try clear c4
                            try clear c5
                            try clear c10
                            try clear c14
                            try clear c15
                            try clear c17
                            try clear c18
                            try clear c19
                            try clear c20
                            try clear c36
                            try clear c36b0
                            try clear c36b1
                            try clear c43
                            try clear c43b0
                            try clear c43b1
                            try clear c50
                            try clear c50b0
                            try clear c50b1
                            obtain ⟨kq, x15_29, x110000_29, x110001_29, x110002_29, x110003_29, x110004_29, x119000_29, x119001_29, x119002_29, x119003_29, x119004_29, rfl, HA, HJ29, BK101, BK122, HI109, HI118, HB⟩ := hcut
                            cases kq with
                            | zero => exact absurd HA.out (by simp [tiklaw22_ClockGoes.j3])
                            | succ kj29 =>
                              have H := HA.out
                              clear HA
                              simp only [tiklaw22_ClockGoes.j3] at H
                              by_cases c59 : x15_29 = true
                              · subst c59
                                have H1 : ((clock_Clock_At.f x110000_29 x110001_29 x110002_29 x110003_29 x110004_29 ((rd_T48 l3 x13_2).f1)).bind fun bt161 => ((refAt.f kj29 x119000_29 x119001_29 x119002_29 x119003_29 x119004_29 ((rd_T48 l3 x13_2).f1)).bind fun t167 => (if bt161.1 = t167 then ((clock_Clock_At.f bt161.2.1 bt161.2.2.1 bt161.2.2.2.1 bt161.2.2.2.2.1 bt161.2.2.2.2.2 ((rd_T48 l3 x13_2).f2)).bind fun bt168 => ((refAt.f kj29 x119000_29 x119001_29 x119002_29 x119003_29 x119004_29 ((rd_T48 l3 x13_2).f2)).bind fun t174 => (if bt168.1 = t174 then ((clock_Clock_Rest.f bt168.2.1 bt168.2.2.1 bt168.2.2.2.1 bt168.2.2.2.2.1 bt168.2.2.2.2.2).bind fun bt175 => (if bt175.1 = x119002_29 then ((clock_Clock_Speed.f bt175.2.1 bt175.2.2.1 bt175.2.2.2.1 bt175.2.2.2.2.1 bt175.2.2.2.2.2).bind fun bt181 => ((tiklaw22_plain.f bt181.1 bt181.2.1).bind fun bt188 => (if (!(bt188.1 == x119003_29) || (!(bt188.2 == x119004_29))) = true then (some false) else (tiklaw22_ClockGoes.l0 kj29 l3 (wrap64 (x13_2 + 1)) bt181.2.2.1 bt181.2.2.2.1 bt181.2.2.2.2.1 bt181.2.2.2.2.2.1 bt181.2.2.2.2.2.2 x119000_29 x119001_29 x119002_29 x119003_29 x119004_29)))) else (some false))) else (some false)))) else (some false)))) = some r := by rw [if_pos rfl] at H; exact H
                                clear H
                                have H := H1
                                clear H1
                                replace H := Option.bind_eq_some_iff.mp H
                                obtain ⟨⟨t161, t162, t163, t164, t165, t166⟩, A600, H⟩ := H
                                replace H : ((refAt.f kj29 x119000_29 x119001_29 x119002_29 x119003_29 x119004_29 ((rd_T48 l3 x13_2).f1)).bind fun t167 => (if t161 = t167 then ((clock_Clock_At.f t162 t163 t164 t165 t166 ((rd_T48 l3 x13_2).f2)).bind fun bt168 => ((refAt.f kj29 x119000_29 x119001_29 x119002_29 x119003_29 x119004_29 ((rd_T48 l3 x13_2).f2)).bind fun t174 => (if bt168.1 = t174 then ((clock_Clock_Rest.f bt168.2.1 bt168.2.2.1 bt168.2.2.2.1 bt168.2.2.2.2.1 bt168.2.2.2.2.2).bind fun bt175 => (if bt175.1 = x119002_29 then ((clock_Clock_Speed.f bt175.2.1 bt175.2.2.1 bt175.2.2.2.1 bt175.2.2.2.2.1 bt175.2.2.2.2.2).bind fun bt181 => ((tiklaw22_plain.f bt181.1 bt181.2.1).bind fun bt188 => (if (!(bt188.1 == x119003_29) || (!(bt188.2 == x119004_29))) = true then (some false) else (tiklaw22_ClockGoes.l0 kj29 l3 (wrap64 (x13_2 + 1)) bt181.2.2.1 bt181.2.2.2.1 bt181.2.2.2.2.1 bt181.2.2.2.2.2.1 bt181.2.2.2.2.2.2 x119000_29 x119001_29 x119002_29 x119003_29 x119004_29)))) else (some false))) else (some false)))) else (some false))) = some r := H
                                have A60 := Aside0.mk A600
                                clear A600
                                replace H := Option.bind_eq_some_iff.mp H
                                obtain ⟨t167, A610, H⟩ := H
                                replace H : (if t161 = t167 then ((clock_Clock_At.f t162 t163 t164 t165 t166 ((rd_T48 l3 x13_2).f2)).bind fun bt168 => ((refAt.f kj29 x119000_29 x119001_29 x119002_29 x119003_29 x119004_29 ((rd_T48 l3 x13_2).f2)).bind fun t174 => (if bt168.1 = t174 then ((clock_Clock_Rest.f bt168.2.1 bt168.2.2.1 bt168.2.2.2.1 bt168.2.2.2.2.1 bt168.2.2.2.2.2).bind fun bt175 => (if bt175.1 = x119002_29 then ((clock_Clock_Speed.f bt175.2.1 bt175.2.2.1 bt175.2.2.2.1 bt175.2.2.2.2.1 bt175.2.2.2.2.2).bind fun bt181 => ((tiklaw22_plain.f bt181.1 bt181.2.1).bind fun bt188 => (if (!(bt188.1 == x119003_29) || (!(bt188.2 == x119004_29))) = true then (some false) else (tiklaw22_ClockGoes.l0 kj29 l3 (wrap64 (x13_2 + 1)) bt181.2.2.1 bt181.2.2.2.1 bt181.2.2.2.2.1 bt181.2.2.2.2.2.1 bt181.2.2.2.2.2.2 x119000_29 x119001_29 x119002_29 x119003_29 x119004_29)))) else (some false))) else (some false)))) else (some false)) = some r := H
                                have A61 := Aside0.mk A610
                                clear A610
                                by_cases c62 : t161 = t167
                                · rw [if_pos c62] at H
                                  have c62b0 : (t161 == t167) = true := beq_iff_eq.mpr c62
                                  have c62b1 : (t161 != t167) = false := bne_eq_false_iff_eq.mpr c62
                                  clear c62
                                  replace H := Option.bind_eq_some_iff.mp H
                                  obtain ⟨⟨t168, t169, t170, t171, t172, t173⟩, A630, H⟩ := H
                                  replace H : ((refAt.f kj29 x119000_29 x119001_29 x119002_29 x119003_29 x119004_29 ((rd_T48 l3 x13_2).f2)).bind fun t174 => (if t168 = t174 then ((clock_Clock_Rest.f t169 t170 t171 t172 t173).bind fun bt175 => (if bt175.1 = x119002_29 then ((clock_Clock_Speed.f bt175.2.1 bt175.2.2.1 bt175.2.2.2.1 bt175.2.2.2.2.1 bt175.2.2.2.2.2).bind fun bt181 => ((tiklaw22_plain.f bt181.1 bt181.2.1).bind fun bt188 => (if (!(bt188.1 == x119003_29) || (!(bt188.2 == x119004_29))) = true then (some false) else (tiklaw22_ClockGoes.l0 kj29 l3 (wrap64 (x13_2 + 1)) bt181.2.2.1 bt181.2.2.2.1 bt181.2.2.2.2.1 bt181.2.2.2.2.2.1 bt181.2.2.2.2.2.2 x119000_29 x119001_29 x119002_29 x119003_29 x119004_29)))) else (some false))) else (some false))) = some r := H
                                  have A63 := Aside0.mk A630
                                  clear A630
                                  replace H := Option.bind_eq_some_iff.mp H
                                  obtain ⟨t174, A640, H⟩ := H
                                  replace H : (if t168 = t174 then ((clock_Clock_Rest.f t169 t170 t171 t172 t173).bind fun bt175 => (if bt175.1 = x119002_29 then ((clock_Clock_Speed.f bt175.2.1 bt175.2.2.1 bt175.2.2.2.1 bt175.2.2.2.2.1 bt175.2.2.2.2.2).bind fun bt181 => ((tiklaw22_plain.f bt181.1 bt181.2.1).bind fun bt188 => (if (!(bt188.1 == x119003_29) || (!(bt188.2 == x119004_29))) = true then (some false) else (tiklaw22_ClockGoes.l0 kj29 l3 (wrap64 (x13_2 + 1)) bt181.2.2.1 bt181.2.2.2.1 bt181.2.2.2.2.1 bt181.2.2.2.2.2.1 bt181.2.2.2.2.2.2 x119000_29 x119001_29 x119002_29 x119003_29 x119004_29)))) else (some false))) else (some false)) = some r := H
                                  have A64 := Aside0.mk A640
                                  clear A640
                                  by_cases c65 : t168 = t174
                                  · rw [if_pos c65] at H
                                    have c65b0 : (t168 == t174) = true := beq_iff_eq.mpr c65
                                    have c65b1 : (t168 != t174) = false := bne_eq_false_iff_eq.mpr c65
                                    clear c65
                                    replace H := Option.bind_eq_some_iff.mp H
                                    obtain ⟨⟨t175, t176, t177, t178, t179, t180⟩, A660, H⟩ := H
                                    replace H : (if t175 = x119002_29 then ((clock_Clock_Speed.f t176 t177 t178 t179 t180).bind fun bt181 => ((tiklaw22_plain.f bt181.1 bt181.2.1).bind fun bt188 => (if (!(bt188.1 == x119003_29) || (!(bt188.2 == x119004_29))) = true then (some false) else (tiklaw22_ClockGoes.l0 kj29 l3 (wrap64 (x13_2 + 1)) bt181.2.2.1 bt181.2.2.2.1 bt181.2.2.2.2.1 bt181.2.2.2.2.2.1 bt181.2.2.2.2.2.2 x119000_29 x119001_29 x119002_29 x119003_29 x119004_29)))) else (some false)) = some r := H
                                    have A66 := Aside0.mk A660
                                    clear A660
                                    by_cases c67 : t175 = x119002_29
                                    · rw [if_pos c67] at H
                                      have c67b0 : (t175 == x119002_29) = true := beq_iff_eq.mpr c67
                                      have c67b1 : (t175 != x119002_29) = false := bne_eq_false_iff_eq.mpr c67
                                      clear c67
                                      replace H := Option.bind_eq_some_iff.mp H
                                      obtain ⟨⟨t181, t182, t183, t184, t185, t186, t187⟩, A680, H⟩ := H
                                      replace H : ((tiklaw22_plain.f t181 t182).bind fun bt188 => (if (!(bt188.1 == x119003_29) || (!(bt188.2 == x119004_29))) = true then (some false) else (tiklaw22_ClockGoes.l0 kj29 l3 (wrap64 (x13_2 + 1)) t183 t184 t185 t186 t187 x119000_29 x119001_29 x119002_29 x119003_29 x119004_29))) = some r := H
                                      have A68 := Aside0.mk A680
                                      clear A680
                                      replace H := Option.bind_eq_some_iff.mp H
                                      obtain ⟨⟨t188, t189⟩, A690, H⟩ := H
                                      replace H : (if (!(t188 == x119003_29) || (!(t189 == x119004_29))) = true then (some false) else (tiklaw22_ClockGoes.l0 kj29 l3 (wrap64 (x13_2 + 1)) t183 t184 t185 t186 t187 x119000_29 x119001_29 x119002_29 x119003_29 x119004_29)) = some r := H
                                      have A69 := Aside0.mk A690
                                      clear A690
                                      by_cases c70 : (!(t188 == x119003_29) || (!(t189 == x119004_29))) = true
                                      · rw [if_pos c70] at H
                                        have c70b0 : (!(t188 == x119003_29) || (!(t189 == x119004_29))) = true := c70
                                        clear c70
                                        exact absurd ((Option.some.inj H).trans hr_.out) (by simp)
                                      · rw [if_neg c70] at H
                                        have c70b0 : (!(t188 == x119003_29) || (!(t189 == x119004_29))) = false := by simpa using c70
                                        clear c70
                                        have H' := Aside0.mk H
                                        clear H
                                        try go_wp2
                                        have n0_ := Aside0.mk (blk_drew BK101.out)
                                        have n1_ := Aside0.mk (blk_drew BK122.out)
                                        have n2_ := Aside0.mk (IsS55.drew HI109.out)
                                        have n3_ := Aside0.mk (IsS51.drew HI118.out)
                                        have n4_ := Aside0.mk (below_drew1 HB.out)
                                        clear BK101
                                        clear BK122
                                        clear HI109
                                        clear HI118
                                        clear HB
                                        have BK101 := n0_
                                        have BK122 := n1_
                                        have HI109 := n2_
                                        have HI118 := n3_
                                        have HB := n4_
                                        clear n0_ n1_ n2_ n3_ n4_
                                        refine start_ (n := 43) (S := fun w' => w'.cell? ⟨gb122, 0, none⟩ = some (.int .i64 ((rd_T48 l3 x13_2).f0)) ∧ w'.cell? ⟨gb122, 1, none⟩ = some (.int .u64 ((rd_T48 l3 x13_2).f1)) ∧ w'.cell? ⟨gb122, 2, none⟩ = some (.int .u64 ((rd_T48 l3 x13_2).f2)) ∧ w'.cell? ⟨gb122, 3, none⟩ = some (.int .u64 ((rd_T48 l3 x13_2).f3.f0)) ∧ w'.cell? ⟨gb122, 4, none⟩ = some (.int .u64 ((rd_T48 l3 x13_2).f3.f1)) ∧ w'.cell? ⟨g118, 0, none⟩ = some (.int .u64 x119000_29) ∧ w'.cell? ⟨g118, 1, none⟩ = some (.int .u64 x119001_29) ∧ w'.cell? ⟨g118, 2, none⟩ = some (.int .u64 x119002_29) ∧ w'.cell? ⟨g118, 3, none⟩ = some (.int .u64 x119003_29) ∧ w'.cell? ⟨g118, 4, none⟩ = some (.int .u64 x119004_29)) (ds := []) #[false, false, false, false, false, false, false, false, false, false, false, false, false, false, false, false, false, false, false, false, false, false, false, false, false, false, false, false, false, false, false, false, false, false, false, false, false, false, false, false, false, false, false] (by kernel_rfl) rfl rfl ⟨(blk_cell BK122.out 0).trans rfl, (blk_cell BK122.out 1).trans rfl, (blk_cell BK122.out 2).trans rfl, (blk_cell BK122.out 3).trans rfl, (blk_cell BK122.out 4).trans rfl, (blk_cell (Aside0.mk HI118.out.1).out 0).trans rfl, (blk_cell (Aside0.mk HI118.out.1).out 1).trans rfl, (blk_cell (Aside0.mk HI118.out.1).out 2).trans rfl, (blk_cell (Aside0.mk HI118.out.1).out 3).trans rfl, (blk_cell (Aside0.mk HI118.out.1).out 4).trans rfl⟩ (fun hHeld => ?_); refine with_tabW tiklaw22_ClockGoes.tab21 tiklaw22_ClockGoes.bits21 (fun HT_ HW_ => ?_)
                                        generalize wc.drew = w71 at BK101 BK122 HI109 HI118 HB hHeld ⊢
                                        refine pure_ (i := 0) (N := some 105) (v := ?_) (a' := ?_) #[true, false, false, false, false, false, false, false, false, false, false, false, false, false, false, false, false, false, false, false, false, false, false, false, false, false, false, false, false, false, false, false, false, false, false, false, false, false, false, false, false, false, false] rfl rfl (any_of HT_.out (by kernel_rfl)) (fun _ _ _ h => h) (Or.inl ⟨by rfl, ?_⟩) ?_ ?_
                                        rotate_left
                                        · intro w'
                                          go_simp
                                          with_reducible rfl
                                        rotate_left
                                        · simp only [Act.put, List.setIfInBounds_toArray, List.set_cons_zero, List.set_cons_succ, i64_w, i32_w]
                                          rfl
                                        refine pure_ (i := 1) (N := some 106) (v := ?_) (a' := ?_) #[true, true, false, false, false, false, false, false, false, false, false, false, false, false, false, false, false, false, false, false, false, false, false, false, false, false, false, false, false, false, false, false, false, false, false, false, false, false, false, false, false, false, false] rfl rfl (any_of HT_.out (by kernel_rfl)) (fun _ _ _ h => h) (Or.inl ⟨by rfl, ?_⟩) ?_ ?_
                                        rotate_left
                                        · intro w'
                                          go_simp
                                          with_reducible rfl
                                        rotate_left
                                        · simp only [Act.put, List.setIfInBounds_toArray, List.set_cons_zero, List.set_cons_succ, i64_w, i32_w]
                                          rfl
                                        refine pure_ (i := 2) (N := some 107) (v := ?_) (a' := ?_) #[true, true, true, false, false, false, false, false, false, false, false, false, false, false, false, false, false, false, false, false, false, false, false, false, false, false, false, false, false, false, false, false, false, false, false, false, false, false, false, false, false, false, false] rfl rfl (any_of HT_.out (by kernel_rfl)) (fun _ _ _ h => h) (Or.inl ⟨by rfl, ?_⟩) ?_ ?_
                                        rotate_left
                                        · intro w'
                                          go_simp
                                          with_reducible rfl
                                        rotate_left
                                        · simp only [Act.put, List.setIfInBounds_toArray, List.set_cons_zero, List.set_cons_succ, i64_w, i32_w]
                                          rfl
                                        refine pure_ (i := 3) (N := some 108) (v := ?_) (a' := ?_) #[true, true, true, true, false, false, false, false, false, false, false, false, false, false, false, false, false, false, false, false, false, false, false, false, false, false, false, false, false, false, false, false, false, false, false, false, false, false, false, false, false, false, false] rfl rfl (any_of HT_.out (by kernel_rfl)) (fun _ _ _ h => h) (Or.inl ⟨by rfl, ?_⟩) ?_ ?_
                                        rotate_left
                                        · intro w'
                                          go_simp
                                          with_reducible rfl
                                        rotate_left
                                        · simp only [Act.put, List.setIfInBounds_toArray, List.set_cons_zero, List.set_cons_succ, i64_w, i32_w]
                                          rfl
                                        refine pure_ (i := 4) (N := some 109) (v := ?_) (a' := ?_) #[true, true, true, true, true, false, false, false, false, false, false, false, false, false, false, false, false, false, false, false, false, false, false, false, false, false, false, false, false, false, false, false, false, false, false, false, false, false, false, false, false, false, false] rfl rfl (any_of HT_.out (by kernel_rfl)) (fun _ _ _ h => h) (Or.inl ⟨by rfl, ?_⟩) ?_ ?_
                                        rotate_left
                                        · intro w'
                                          go_simp
                                          with_reducible rfl
                                        rotate_left
                                        · simp only [Act.put, List.setIfInBounds_toArray, List.set_cons_zero, List.set_cons_succ, i64_w, i32_w]
                                          rfl
                                        refine pure_ (i := 7) (N := some 112) (v := ?_) (a' := ?_) #[true, true, true, true, true, false, false, true, false, false, false, false, false, false, false, false, false, false, false, false, false, false, false, false, false, false, false, false, false, false, false, false, false, false, false, false, false, false, false, false, false, false, false] rfl rfl (any_of HT_.out (by kernel_rfl)) (fun _ _ _ h => h) (Or.inl ⟨by rfl, ?_⟩) ?_ ?_
                                        rotate_left
                                        · intro w'
                                          go_simp
                                          with_reducible rfl
                                        rotate_left
                                        · simp only [Act.put, List.setIfInBounds_toArray, List.set_cons_zero, List.set_cons_succ, i64_w, i32_w]
                                          rfl
                                        refine pure_ (i := 8) (N := some 113) (v := ?_) (a' := ?_) #[true, true, true, true, true, false, false, true, true, false, false, false, false, false, false, false, false, false, false, false, false, false, false, false, false, false, false, false, false, false, false, false, false, false, false, false, false, false, false, false, false, false, false] rfl rfl (any_of HT_.out (by kernel_rfl)) (fun _ _ _ h => h) (Or.inl ⟨by rfl, ?_⟩) ?_ ?_
                                        rotate_left
                                        · intro w'
                                          go_simp
                                          with_reducible rfl
                                        rotate_left
                                        · simp only [Act.put, List.setIfInBounds_toArray, List.set_cons_zero, List.set_cons_succ, i64_w, i32_w]
                                          rfl
                                        refine take_ (i := 5) (N := some 110) (v := ?_) (a' := ?_) #[true, true, true, true, true, true, false, true, true, false, false, false, false, false, false, false, false, false, false, false, false, false, false, false, false, false, false, false, false, false, false, false, false, false, false, false, false, false, false, false, false, false, false] rfl rfl (take_ofW HT_.out HW_.out (by kernel_rfl)) (fun _ _ _ h => h) (Or.inl ⟨by rfl, ?_⟩) hHeld ?_ ?_
                                        rotate_left
                                        · rintro w' ⟨s0, s1, s2, s3, s4, s5, s6, s7, s8, s9⟩
                                          go_simp
                                          with_reducible rfl
                                        rotate_left
                                        · simp only [Act.put, List.setIfInBounds_toArray, List.set_cons_zero, List.set_cons_succ, i64_w, i32_w]
                                          rfl
                                        refine take_ (i := 9) (N := some 114) (v := ?_) (a' := ?_) #[true, true, true, true, true, true, false, true, true, true, false, false, false, false, false, false, false, false, false, false, false, false, false, false, false, false, false, false, false, false, false, false, false, false, false, false, false, false, false, false, false, false, false] rfl rfl (take_ofW HT_.out HW_.out (by kernel_rfl)) (fun _ _ _ h => h) (Or.inl ⟨by rfl, ?_⟩) hHeld ?_ ?_
                                        rotate_left
                                        · rintro w' ⟨s0, s1, s2, s3, s4, s5, s6, s7, s8, s9⟩
                                          go_simp
                                          with_reducible rfl
                                        rotate_left
                                        · simp only [Act.put, List.setIfInBounds_toArray, List.set_cons_zero, List.set_cons_succ, i64_w, i32_w]
                                          rfl
                                        refine one_ (i := 6) (N := some 111) #[true, true, true, true, true, true, true, true, true, true, false, false, false, false, false, false, false, false, false, false, false, false, false, false, false, false, false, false, false, false, false, false, false, false, false, false, false, false, false, false, false, false, false] rfl rfl (one_of HT_.out (by kernel_rfl)) (by decide) (fun K hK => ?_)
                                        refine goes_ Try.func9 (by kernel_rfl) rfl #[.pointer (some ⟨g109, 0, none⟩), .int .u64 ((rd_T48 l3 x13_2).f1)] (by rfl) rfl rfl (by (try simp only [List.map_toArray, List.map_cons, List.map_nil]); first | done | rfl | (simp only [List.length_drop, List.length_take]; rfl)) ?_
                                        with_reducible refine (clock_Clock_At.calls g109 x110000_29 x110001_29 x110002_29 x110003_29 x110004_29 ((rd_T48 l3 x13_2).f1) t161 t162 t163 t164 t165 t166 w _ ?side1 ?side2 A60.out).mono ?_
                                        (case side1 => repeat (first | (with_reducible first | exact HI109.out | apply IsS55.alloc | apply IsS55.drewN | apply IsS55.drew | apply IsS55.set_0 | apply IsS55.set_1 | apply IsS55.set_2 | apply IsS55.set_3 | apply IsS55.set_4 | refine IsS55.far ?_ NB109_101.out _ | refine IsS55.far ?_ NB109_122.out _) | exact HI109.out))
                                        (case side2 => repeat (first | (with_reducible first | exact HB.out | apply below_alloc | apply pw_below_drewN | apply below_drew1 | refine below_set ?_ (IsS55.ge HI109.out) | refine below_set ?_ (IsS51.ge HI118.out) | refine below_set ?_ GE101.out | refine below_set ?_ GE122.out) | exact HB.out))
                                        rintro e w72 ⟨rfl, hi, hb, hk⟩
                                        refine ⟨_, rfl, ?_⟩
                                        have n0_ := Aside0.mk (KeepBut.blk hk (g' := gb101) (o := .cells #[.int .u64 a2_0, .int .u64 a2_1] 24 (0, 0)) (by (with_reducible repeat (first | refine blk_drewN ?_ _ | refine blk_drew ?_ | refine blk_alloc ?_ _)); exact BK101.out) NB101_109.out (by simp))
                                        have n1_ := Aside0.mk (KeepBut.blk hk (g' := gb122) (o := .cells #[.int .i64 ((rd_T48 l3 x13_2).f0), .int .u64 ((rd_T48 l3 x13_2).f1), .int .u64 ((rd_T48 l3 x13_2).f2), .int .u64 ((rd_T48 l3 x13_2).f3.f0), .int .u64 ((rd_T48 l3 x13_2).f3.f1)] 48 (0, 0)) (by (with_reducible repeat (first | refine blk_drewN ?_ _ | refine blk_drew ?_ | refine blk_alloc ?_ _)); exact BK122.out) NB122_109.out (by simp))
                                        have n2_ := Aside0.mk (IsS51.kept (show IsS51 w _ g118 x119000_29 x119001_29 x119002_29 x119003_29 x119004_29 from by repeat (first | (with_reducible first | exact HI118.out | apply IsS51.alloc | apply IsS51.drewN | apply IsS51.drew | apply IsS51.set_0 | apply IsS51.set_1 | apply IsS51.set_2 | apply IsS51.set_3 | apply IsS51.set_4 | refine IsS51.far ?_ NB118_101.out _ | refine IsS51.far ?_ NB118_122.out _) | exact HI118.out)) ⟨hk.1, fun i_ hi_ hs_ => hk.2 i_ hi_ hs_ (by simp)⟩ (NB118_109.out))
                                        have n3_ := Aside0.mk (hb)
                                        have n4_ := Aside0.mk (hi)
                                        clear BK101
                                        clear BK122
                                        clear HI118
                                        clear HB
                                        clear HI109
                                        have BK101 := n0_
                                        have BK122 := n1_
                                        have HI118 := n2_
                                        have HB := n3_
                                        have HI109 := n4_
                                        clear n0_ n1_ n2_ n3_ n4_
                                        (try clear hb)
                                        (try clear hb2)
                                        (try clear hk)
                                        (try clear hi)
                                        refine hK.out _ _ ⟨(blk_cell BK122.out 0).trans rfl, (blk_cell BK122.out 1).trans rfl, (blk_cell BK122.out 2).trans rfl, (blk_cell BK122.out 3).trans rfl, (blk_cell BK122.out 4).trans rfl, (blk_cell (Aside0.mk HI118.out.1).out 0).trans rfl, (blk_cell (Aside0.mk HI118.out.1).out 1).trans rfl, (blk_cell (Aside0.mk HI118.out.1).out 2).trans rfl, (blk_cell (Aside0.mk HI118.out.1).out 3).trans rfl, (blk_cell (Aside0.mk HI118.out.1).out 4).trans rfl⟩ (fun hHeld => ?_)
                                        clear hK K
                                        refine norm_ (a' := ?_) ?_ ?_
                                        rotate_left
                                        · show Act.put _ (some 111) _ = _
                                          simp only [Act.put, List.setIfInBounds_toArray, List.set_cons_zero, List.set_cons_succ, i64_w, i32_w]
                                          rfl
                                        refine one_ (i := 10) (N := some 115) #[true, true, true, true, true, true, true, true, true, true, true, false, false, false, false, false, false, false, false, false, false, false, false, false, false, false, false, false, false, false, false, false, false, false, false, false, false, false, false, false, false, false, false] rfl rfl (one_of HT_.out (by kernel_rfl)) (by decide) (fun K hK => ?_)
                                        refine goes_ Try.func21 (by kernel_rfl) rfl #[.pointer (some ⟨g118, 0, none⟩), .int .u64 ((rd_T48 l3 x13_2).f1)] (by rfl) rfl rfl (by (try simp only [List.map_toArray, List.map_cons, List.map_nil]); first | done | rfl | (simp only [List.length_drop, List.length_take]; rfl)) ?_
                                        with_reducible refine (refAt.calls kj29 g118 x119000_29 x119001_29 x119002_29 x119003_29 x119004_29 ((rd_T48 l3 x13_2).f1) t167 w _ ?side1 ?side2 A61.out).mono ?_
                                        (case side1 => repeat (first | (with_reducible first | exact HI118.out | apply IsS51.alloc | apply IsS51.drewN | apply IsS51.drew | apply IsS51.set_0 | apply IsS51.set_1 | apply IsS51.set_2 | apply IsS51.set_3 | apply IsS51.set_4 | refine IsS51.far ?_ NB118_101.out _ | refine IsS51.far ?_ NB118_122.out _) | exact HI118.out))
                                        (case side2 => repeat (first | (with_reducible first | exact HB.out | apply below_alloc | apply pw_below_drewN | apply below_drew1 | refine below_set ?_ (IsS55.ge HI109.out) | refine below_set ?_ (IsS51.ge HI118.out) | refine below_set ?_ GE101.out | refine below_set ?_ GE122.out) | exact HB.out))
                                        rintro e w73 ⟨rfl, hi, hb, hk⟩
                                        refine ⟨_, rfl, ?_⟩
                                        have n0_ := Aside0.mk (KeepBut.blk hk (g' := gb101) (o := .cells #[.int .u64 a2_0, .int .u64 a2_1] 24 (0, 0)) (by (with_reducible repeat (first | refine blk_drewN ?_ _ | refine blk_drew ?_ | refine blk_alloc ?_ _)); exact BK101.out) NB101_118.out (by simp))
                                        have n1_ := Aside0.mk (KeepBut.blk hk (g' := gb122) (o := .cells #[.int .i64 ((rd_T48 l3 x13_2).f0), .int .u64 ((rd_T48 l3 x13_2).f1), .int .u64 ((rd_T48 l3 x13_2).f2), .int .u64 ((rd_T48 l3 x13_2).f3.f0), .int .u64 ((rd_T48 l3 x13_2).f3.f1)] 48 (0, 0)) (by (with_reducible repeat (first | refine blk_drewN ?_ _ | refine blk_drew ?_ | refine blk_alloc ?_ _)); exact BK122.out) NB122_118.out (by simp))
                                        have n2_ := Aside0.mk (IsS55.kept (show IsS55 w _ g109 t162 t163 t164 t165 t166 from by repeat (first | (with_reducible first | exact HI109.out | apply IsS55.alloc | apply IsS55.drewN | apply IsS55.drew | apply IsS55.set_0 | apply IsS55.set_1 | apply IsS55.set_2 | apply IsS55.set_3 | apply IsS55.set_4 | refine IsS55.far ?_ NB109_101.out _ | refine IsS55.far ?_ NB109_122.out _) | exact HI109.out)) ⟨hk.1, fun i_ hi_ hs_ => hk.2 i_ hi_ hs_ (by simp)⟩ (NB109_118.out))
                                        have n3_ := Aside0.mk (hb)
                                        have n4_ := Aside0.mk (hi)
                                        clear BK101
                                        clear BK122
                                        clear HI109
                                        clear HB
                                        clear HI118
                                        have BK101 := n0_
                                        have BK122 := n1_
                                        have HI109 := n2_
                                        have HB := n3_
                                        have HI118 := n4_
                                        clear n0_ n1_ n2_ n3_ n4_
                                        (try clear hb)
                                        (try clear hb2)
                                        (try clear hk)
                                        (try clear hi)
                                        refine hK.out _ _ ⟨(blk_cell BK122.out 0).trans rfl, (blk_cell BK122.out 1).trans rfl, (blk_cell BK122.out 2).trans rfl, (blk_cell BK122.out 3).trans rfl, (blk_cell BK122.out 4).trans rfl, (blk_cell (Aside0.mk HI118.out.1).out 0).trans rfl, (blk_cell (Aside0.mk HI118.out.1).out 1).trans rfl, (blk_cell (Aside0.mk HI118.out.1).out 2).trans rfl, (blk_cell (Aside0.mk HI118.out.1).out 3).trans rfl, (blk_cell (Aside0.mk HI118.out.1).out 4).trans rfl⟩ (fun hHeld => ?_)
                                        clear hK K
                                        refine norm_ (a' := ?_) ?_ ?_
                                        rotate_left
                                        · show Act.put _ (some 115) _ = _
                                          simp only [Act.put, List.setIfInBounds_toArray, List.set_cons_zero, List.set_cons_succ, i64_w, i32_w]
                                          rfl
                                        refine pure_ (i := 11) (N := some 116) (v := ?_) (a' := ?_) #[true, true, true, true, true, true, true, true, true, true, true, true, false, false, false, false, false, false, false, false, false, false, false, false, false, false, false, false, false, false, false, false, false, false, false, false, false, false, false, false, false, false, false] rfl rfl (any_of HT_.out (by kernel_rfl)) (fun _ _ _ h => h) (Or.inl ⟨by rfl, ?_⟩) ?_ ?_
                                        rotate_left
                                        · intro w'
                                          go_simp
                                          with_reducible rfl
                                        rotate_left
                                        · simp only [Act.put, List.setIfInBounds_toArray, List.set_cons_zero, List.set_cons_succ, i64_w, i32_w]
                                          rfl
                                        refine pure_ (i := 12) (N := some 117) (v := ?_) (a' := ?_) #[true, true, true, true, true, true, true, true, true, true, true, true, true, false, false, false, false, false, false, false, false, false, false, false, false, false, false, false, false, false, false, false, false, false, false, false, false, false, false, false, false, false, false] rfl rfl (any_of HT_.out (by kernel_rfl)) (fun _ _ _ h => h) (Or.inl ⟨by rfl, ?_⟩) ?_ ?_
                                        rotate_left
                                        · intro w'
                                          go_simp
                                          with_reducible rfl
                                        rotate_left
                                        · simp only [Act.put, List.setIfInBounds_toArray, List.set_cons_zero, List.set_cons_succ, i64_w, i32_w]
                                          rfl
                                        refine pure_ (i := 13) (N := some 118) (v := ?_) (a' := ?_) #[true, true, true, true, true, true, true, true, true, true, true, true, true, true, false, false, false, false, false, false, false, false, false, false, false, false, false, false, false, false, false, false, false, false, false, false, false, false, false, false, false, false, false] rfl rfl (any_of HT_.out (by kernel_rfl)) (fun _ _ _ h => h) (Or.inl ⟨by rfl, ?_⟩) ?_ ?_
                                        rotate_left
                                        · intro w'
                                          go_simp
                                          with_reducible rfl
                                        rotate_left
                                        · simp only [Act.put, List.setIfInBounds_toArray, List.set_cons_zero, List.set_cons_succ, i64_w, i32_w]
                                          rfl
                                        refine pure_ (i := 14) (N := some 119) (v := ?_) (a' := ?_) #[true, true, true, true, true, true, true, true, true, true, true, true, true, true, true, false, false, false, false, false, false, false, false, false, false, false, false, false, false, false, false, false, false, false, false, false, false, false, false, false, false, false, false] rfl rfl (any_of HT_.out (by kernel_rfl)) (fun _ _ _ h => h) (Or.inl ⟨by rfl, ?_⟩) ?_ ?_
                                        rotate_left
                                        · intro w'
                                          go_simp
                                          with_reducible rfl
                                        rotate_left
                                        · simp only [Act.put, List.setIfInBounds_toArray, List.set_cons_zero, List.set_cons_succ, i64_w, i32_w]
                                          rfl
                                        refine pure_ (i := 15) (N := some 120) (v := ?_) (a' := ?_) #[true, true, true, true, true, true, true, true, true, true, true, true, true, true, true, true, false, false, false, false, false, false, false, false, false, false, false, false, false, false, false, false, false, false, false, false, false, false, false, false, false, false, false] rfl rfl (any_of HT_.out (by kernel_rfl)) (fun _ _ _ h => h) (Or.inl ⟨by rfl, ?_⟩) ?_ ?_
                                        rotate_left
                                        · intro w'
                                          go_simp
                                          with_reducible rfl
                                        rotate_left
                                        · simp only [Act.put, List.setIfInBounds_toArray, List.set_cons_zero, List.set_cons_succ, i64_w, i32_w]
                                          rfl
                                        refine pure_ (i := 18) (N := some 123) (v := ?_) (a' := ?_) #[true, true, true, true, true, true, true, true, true, true, true, true, true, true, true, true, false, false, true, false, false, false, false, false, false, false, false, false, false, false, false, false, false, false, false, false, false, false, false, false, false, false, false] rfl rfl (any_of HT_.out (by kernel_rfl)) (fun _ _ _ h => h) (Or.inl ⟨by rfl, ?_⟩) ?_ ?_
                                        rotate_left
                                        · intro w'
                                          go_simp
                                          with_reducible rfl
                                        rotate_left
                                        · simp only [Act.put, List.setIfInBounds_toArray, List.set_cons_zero, List.set_cons_succ, i64_w, i32_w]
                                          rfl
                                        refine pure_ (i := 19) (N := some 124) (v := ?_) (a' := ?_) #[true, true, true, true, true, true, true, true, true, true, true, true, true, true, true, true, false, false, true, true, false, false, false, false, false, false, false, false, false, false, false, false, false, false, false, false, false, false, false, false, false, false, false] rfl rfl (any_of HT_.out (by kernel_rfl)) (fun _ _ _ h => h) (Or.inl ⟨by rfl, ?_⟩) ?_ ?_
                                        rotate_left
                                        · intro w'
                                          go_simp
                                          with_reducible rfl
                                        rotate_left
                                        · simp only [Act.put, List.setIfInBounds_toArray, List.set_cons_zero, List.set_cons_succ, i64_w, i32_w]
                                          rfl
                                        refine take_ (i := 16) (N := some 121) (v := ?_) (a' := ?_) #[true, true, true, true, true, true, true, true, true, true, true, true, true, true, true, true, true, false, true, true, false, false, false, false, false, false, false, false, false, false, false, false, false, false, false, false, false, false, false, false, false, false, false] rfl rfl (take_ofW HT_.out HW_.out (by kernel_rfl)) (fun _ _ _ h => h) (Or.inl ⟨by rfl, ?_⟩) hHeld ?_ ?_
                                        rotate_left
                                        · rintro w' ⟨s0, s1, s2, s3, s4, s5, s6, s7, s8, s9⟩
                                          go_simp
                                          with_reducible rfl
                                        rotate_left
                                        · simp only [Act.put, List.setIfInBounds_toArray, List.set_cons_zero, List.set_cons_succ, i64_w, i32_w]
                                          rfl
                                        refine take_ (i := 20) (N := some 125) (v := ?_) (a' := ?_) #[true, true, true, true, true, true, true, true, true, true, true, true, true, true, true, true, true, false, true, true, true, false, false, false, false, false, false, false, false, false, false, false, false, false, false, false, false, false, false, false, false, false, false] rfl rfl (take_ofW HT_.out HW_.out (by kernel_rfl)) (fun _ _ _ h => h) (Or.inl ⟨by rfl, ?_⟩) hHeld ?_ ?_
                                        rotate_left
                                        · rintro w' ⟨s0, s1, s2, s3, s4, s5, s6, s7, s8, s9⟩
                                          go_simp
                                          with_reducible rfl
                                        rotate_left
                                        · simp only [Act.put, List.setIfInBounds_toArray, List.set_cons_zero, List.set_cons_succ, i64_w, i32_w]
                                          rfl
                                        refine one_ (i := 17) (N := some 122) #[true, true, true, true, true, true, true, true, true, true, true, true, true, true, true, true, true, true, true, true, true, false, false, false, false, false, false, false, false, false, false, false, false, false, false, false, false, false, false, false, false, false, false] rfl rfl (one_of HT_.out (by kernel_rfl)) (by decide) (fun K hK => ?_)
                                        refine goes_ Try.func9 (by kernel_rfl) rfl #[.pointer (some ⟨g109, 0, none⟩), .int .u64 ((rd_T48 l3 x13_2).f2)] (by rfl) rfl rfl (by (try simp only [List.map_toArray, List.map_cons, List.map_nil]); first | done | rfl | (simp only [List.length_drop, List.length_take]; rfl)) ?_
                                        with_reducible refine (clock_Clock_At.calls g109 t162 t163 t164 t165 t166 ((rd_T48 l3 x13_2).f2) t168 t169 t170 t171 t172 t173 w _ ?side1 ?side2 A63.out).mono ?_
                                        (case side1 => repeat (first | (with_reducible first | exact HI109.out | apply IsS55.alloc | apply IsS55.drewN | apply IsS55.drew | apply IsS55.set_0 | apply IsS55.set_1 | apply IsS55.set_2 | apply IsS55.set_3 | apply IsS55.set_4 | refine IsS55.far ?_ NB109_101.out _ | refine IsS55.far ?_ NB109_122.out _) | exact HI109.out))
                                        (case side2 => repeat (first | (with_reducible first | exact HB.out | apply below_alloc | apply pw_below_drewN | apply below_drew1 | refine below_set ?_ (IsS55.ge HI109.out) | refine below_set ?_ (IsS51.ge HI118.out) | refine below_set ?_ GE101.out | refine below_set ?_ GE122.out) | exact HB.out))
                                        rintro e w74 ⟨rfl, hi, hb, hk⟩
                                        refine ⟨_, rfl, ?_⟩
                                        have n0_ := Aside0.mk (KeepBut.blk hk (g' := gb101) (o := .cells #[.int .u64 a2_0, .int .u64 a2_1] 24 (0, 0)) (by (with_reducible repeat (first | refine blk_drewN ?_ _ | refine blk_drew ?_ | refine blk_alloc ?_ _)); exact BK101.out) NB101_109.out (by simp))
                                        have n1_ := Aside0.mk (KeepBut.blk hk (g' := gb122) (o := .cells #[.int .i64 ((rd_T48 l3 x13_2).f0), .int .u64 ((rd_T48 l3 x13_2).f1), .int .u64 ((rd_T48 l3 x13_2).f2), .int .u64 ((rd_T48 l3 x13_2).f3.f0), .int .u64 ((rd_T48 l3 x13_2).f3.f1)] 48 (0, 0)) (by (with_reducible repeat (first | refine blk_drewN ?_ _ | refine blk_drew ?_ | refine blk_alloc ?_ _)); exact BK122.out) NB122_109.out (by simp))
                                        have n2_ := Aside0.mk (IsS51.kept (show IsS51 w _ g118 x119000_29 x119001_29 x119002_29 x119003_29 x119004_29 from by repeat (first | (with_reducible first | exact HI118.out | apply IsS51.alloc | apply IsS51.drewN | apply IsS51.drew | apply IsS51.set_0 | apply IsS51.set_1 | apply IsS51.set_2 | apply IsS51.set_3 | apply IsS51.set_4 | refine IsS51.far ?_ NB118_101.out _ | refine IsS51.far ?_ NB118_122.out _) | exact HI118.out)) ⟨hk.1, fun i_ hi_ hs_ => hk.2 i_ hi_ hs_ (by simp)⟩ (NB118_109.out))
                                        have n3_ := Aside0.mk (hb)
                                        have n4_ := Aside0.mk (hi)
                                        clear BK101
                                        clear BK122
                                        clear HI118
                                        clear HB
                                        clear HI109
                                        have BK101 := n0_
                                        have BK122 := n1_
                                        have HI118 := n2_
                                        have HB := n3_
                                        have HI109 := n4_
                                        clear n0_ n1_ n2_ n3_ n4_
                                        (try clear hb)
                                        (try clear hb2)
                                        (try clear hk)
                                        (try clear hi)
                                        refine hK.out _ _ ⟨(blk_cell BK122.out 0).trans rfl, (blk_cell BK122.out 1).trans rfl, (blk_cell BK122.out 2).trans rfl, (blk_cell BK122.out 3).trans rfl, (blk_cell BK122.out 4).trans rfl, (blk_cell (Aside0.mk HI118.out.1).out 0).trans rfl, (blk_cell (Aside0.mk HI118.out.1).out 1).trans rfl, (blk_cell (Aside0.mk HI118.out.1).out 2).trans rfl, (blk_cell (Aside0.mk HI118.out.1).out 3).trans rfl, (blk_cell (Aside0.mk HI118.out.1).out 4).trans rfl⟩ (fun hHeld => ?_)
                                        clear hK K
                                        refine norm_ (a' := ?_) ?_ ?_
                                        rotate_left
                                        · show Act.put _ (some 122) _ = _
                                          simp only [Act.put, List.setIfInBounds_toArray, List.set_cons_zero, List.set_cons_succ, i64_w, i32_w]
                                          rfl
                                        refine one_ (i := 21) (N := some 126) #[true, true, true, true, true, true, true, true, true, true, true, true, true, true, true, true, true, true, true, true, true, true, false, false, false, false, false, false, false, false, false, false, false, false, false, false, false, false, false, false, false, false, false] rfl rfl (one_of HT_.out (by kernel_rfl)) (by decide) (fun K hK => ?_)
                                        refine goes_ Try.func21 (by kernel_rfl) rfl #[.pointer (some ⟨g118, 0, none⟩), .int .u64 ((rd_T48 l3 x13_2).f2)] (by rfl) rfl rfl (by (try simp only [List.map_toArray, List.map_cons, List.map_nil]); first | done | rfl | (simp only [List.length_drop, List.length_take]; rfl)) ?_
                                        with_reducible refine (refAt.calls kj29 g118 x119000_29 x119001_29 x119002_29 x119003_29 x119004_29 ((rd_T48 l3 x13_2).f2) t174 w _ ?side1 ?side2 A64.out).mono ?_
                                        (case side1 => repeat (first | (with_reducible first | exact HI118.out | apply IsS51.alloc | apply IsS51.drewN | apply IsS51.drew | apply IsS51.set_0 | apply IsS51.set_1 | apply IsS51.set_2 | apply IsS51.set_3 | apply IsS51.set_4 | refine IsS51.far ?_ NB118_101.out _ | refine IsS51.far ?_ NB118_122.out _) | exact HI118.out))
                                        (case side2 => repeat (first | (with_reducible first | exact HB.out | apply below_alloc | apply pw_below_drewN | apply below_drew1 | refine below_set ?_ (IsS55.ge HI109.out) | refine below_set ?_ (IsS51.ge HI118.out) | refine below_set ?_ GE101.out | refine below_set ?_ GE122.out) | exact HB.out))
                                        rintro e w75 ⟨rfl, hi, hb, hk⟩
                                        refine ⟨_, rfl, ?_⟩
                                        have n0_ := Aside0.mk (KeepBut.blk hk (g' := gb101) (o := .cells #[.int .u64 a2_0, .int .u64 a2_1] 24 (0, 0)) (by (with_reducible repeat (first | refine blk_drewN ?_ _ | refine blk_drew ?_ | refine blk_alloc ?_ _)); exact BK101.out) NB101_118.out (by simp))
                                        have n1_ := Aside0.mk (KeepBut.blk hk (g' := gb122) (o := .cells #[.int .i64 ((rd_T48 l3 x13_2).f0), .int .u64 ((rd_T48 l3 x13_2).f1), .int .u64 ((rd_T48 l3 x13_2).f2), .int .u64 ((rd_T48 l3 x13_2).f3.f0), .int .u64 ((rd_T48 l3 x13_2).f3.f1)] 48 (0, 0)) (by (with_reducible repeat (first | refine blk_drewN ?_ _ | refine blk_drew ?_ | refine blk_alloc ?_ _)); exact BK122.out) NB122_118.out (by simp))
                                        have n2_ := Aside0.mk (IsS55.kept (show IsS55 w _ g109 t169 t170 t171 t172 t173 from by repeat (first | (with_reducible first | exact HI109.out | apply IsS55.alloc | apply IsS55.drewN | apply IsS55.drew | apply IsS55.set_0 | apply IsS55.set_1 | apply IsS55.set_2 | apply IsS55.set_3 | apply IsS55.set_4 | refine IsS55.far ?_ NB109_101.out _ | refine IsS55.far ?_ NB109_122.out _) | exact HI109.out)) ⟨hk.1, fun i_ hi_ hs_ => hk.2 i_ hi_ hs_ (by simp)⟩ (NB109_118.out))
                                        have n3_ := Aside0.mk (hb)
                                        have n4_ := Aside0.mk (hi)
                                        clear BK101
                                        clear BK122
                                        clear HI109
                                        clear HB
                                        clear HI118
                                        have BK101 := n0_
                                        have BK122 := n1_
                                        have HI109 := n2_
                                        have HB := n3_
                                        have HI118 := n4_
                                        clear n0_ n1_ n2_ n3_ n4_
                                        (try clear hb)
                                        (try clear hb2)
                                        (try clear hk)
                                        (try clear hi)
                                        refine hK.out _ _ ⟨(blk_cell BK122.out 0).trans rfl, (blk_cell BK122.out 1).trans rfl, (blk_cell BK122.out 2).trans rfl, (blk_cell BK122.out 3).trans rfl, (blk_cell BK122.out 4).trans rfl, (blk_cell (Aside0.mk HI118.out.1).out 0).trans rfl, (blk_cell (Aside0.mk HI118.out.1).out 1).trans rfl, (blk_cell (Aside0.mk HI118.out.1).out 2).trans rfl, (blk_cell (Aside0.mk HI118.out.1).out 3).trans rfl, (blk_cell (Aside0.mk HI118.out.1).out 4).trans rfl⟩ (fun hHeld => ?_)
                                        clear hK K
                                        refine norm_ (a' := ?_) ?_ ?_
                                        rotate_left
                                        · show Act.put _ (some 126) _ = _
                                          simp only [Act.put, List.setIfInBounds_toArray, List.set_cons_zero, List.set_cons_succ, i64_w, i32_w]
                                          rfl
                                        refine pure_ (i := 22) (N := some 127) (v := ?_) (a' := ?_) #[true, true, true, true, true, true, true, true, true, true, true, true, true, true, true, true, true, true, true, true, true, true, true, false, false, false, false, false, false, false, false, false, false, false, false, false, false, false, false, false, false, false, false] rfl rfl (any_of HT_.out (by kernel_rfl)) (fun _ _ _ h => h) (Or.inl ⟨by rfl, ?_⟩) ?_ ?_
                                        rotate_left
                                        · intro w'
                                          go_simp
                                          with_reducible rfl
                                        rotate_left
                                        · simp only [Act.put, List.setIfInBounds_toArray, List.set_cons_zero, List.set_cons_succ, i64_w, i32_w]
                                          rfl
                                        refine pure_ (i := 23) (N := some 128) (v := ?_) (a' := ?_) #[true, true, true, true, true, true, true, true, true, true, true, true, true, true, true, true, true, true, true, true, true, true, true, true, false, false, false, false, false, false, false, false, false, false, false, false, false, false, false, false, false, false, false] rfl rfl (any_of HT_.out (by kernel_rfl)) (fun _ _ _ h => h) (Or.inl ⟨by rfl, ?_⟩) ?_ ?_
                                        rotate_left
                                        · intro w'
                                          go_simp
                                          with_reducible rfl
                                        rotate_left
                                        · simp only [Act.put, List.setIfInBounds_toArray, List.set_cons_zero, List.set_cons_succ, i64_w, i32_w]
                                          rfl
                                        refine pure_ (i := 24) (N := some 129) (v := ?_) (a' := ?_) #[true, true, true, true, true, true, true, true, true, true, true, true, true, true, true, true, true, true, true, true, true, true, true, true, true, false, false, false, false, false, false, false, false, false, false, false, false, false, false, false, false, false, false] rfl rfl (any_of HT_.out (by kernel_rfl)) (fun _ _ _ h => h) (Or.inl ⟨by rfl, ?_⟩) ?_ ?_
                                        rotate_left
                                        · intro w'
                                          go_simp
                                          with_reducible rfl
                                        rotate_left
                                        · simp only [Act.put, List.setIfInBounds_toArray, List.set_cons_zero, List.set_cons_succ, i64_w, i32_w]
                                          rfl
                                        refine pure_ (i := 25) (N := some 130) (v := ?_) (a' := ?_) #[true, true, true, true, true, true, true, true, true, true, true, true, true, true, true, true, true, true, true, true, true, true, true, true, true, true, false, false, false, false, false, false, false, false, false, false, false, false, false, false, false, false, false] rfl rfl (any_of HT_.out (by kernel_rfl)) (fun _ _ _ h => h) (Or.inl ⟨by rfl, ?_⟩) ?_ ?_
                                        rotate_left
                                        · intro w'
                                          go_simp
                                          with_reducible rfl
                                        rotate_left
                                        · simp only [Act.put, List.setIfInBounds_toArray, List.set_cons_zero, List.set_cons_succ, i64_w, i32_w]
                                          rfl
                                        refine pure_ (i := 27) (N := some 132) (v := ?_) (a' := ?_) #[true, true, true, true, true, true, true, true, true, true, true, true, true, true, true, true, true, true, true, true, true, true, true, true, true, true, false, true, false, false, false, false, false, false, false, false, false, false, false, false, false, false, false] rfl rfl (any_of HT_.out (by kernel_rfl)) (fun _ _ _ h => h) (Or.inl ⟨by rfl, ?_⟩) ?_ ?_
                                        rotate_left
                                        · intro w'
                                          go_simp
                                          with_reducible rfl
                                        rotate_left
                                        · simp only [Act.put, List.setIfInBounds_toArray, List.set_cons_zero, List.set_cons_succ, i64_w, i32_w]
                                          rfl
                                        refine pure_ (i := 28) (N := some 133) (v := ?_) (a' := ?_) #[true, true, true, true, true, true, true, true, true, true, true, true, true, true, true, true, true, true, true, true, true, true, true, true, true, true, false, true, true, false, false, false, false, false, false, false, false, false, false, false, false, false, false] rfl rfl (any_of HT_.out (by kernel_rfl)) (fun _ _ _ h => h) (Or.inl ⟨by rfl, ?_⟩) ?_ ?_
                                        rotate_left
                                        · intro w'
                                          go_simp
                                          with_reducible rfl
                                        rotate_left
                                        · simp only [Act.put, List.setIfInBounds_toArray, List.set_cons_zero, List.set_cons_succ, i64_w, i32_w]
                                          rfl
                                        refine pure_ (i := 29) (N := some 134) (v := ?_) (a' := ?_) #[true, true, true, true, true, true, true, true, true, true, true, true, true, true, true, true, true, true, true, true, true, true, true, true, true, true, false, true, true, true, false, false, false, false, false, false, false, false, false, false, false, false, false] rfl rfl (any_of HT_.out (by kernel_rfl)) (fun _ _ _ h => h) (Or.inl ⟨by rfl, ?_⟩) ?_ ?_
                                        rotate_left
                                        · intro w'
                                          go_simp
                                          with_reducible rfl
                                        rotate_left
                                        · simp only [Act.put, List.setIfInBounds_toArray, List.set_cons_zero, List.set_cons_succ, i64_w, i32_w]
                                          rfl
                                        refine take_ (i := 30) (N := some 135) (v := ?_) (a' := ?_) #[true, true, true, true, true, true, true, true, true, true, true, true, true, true, true, true, true, true, true, true, true, true, true, true, true, true, false, true, true, true, true, false, false, false, false, false, false, false, false, false, false, false, false] rfl rfl (take_ofW HT_.out HW_.out (by kernel_rfl)) (fun _ _ _ h => h) (Or.inl ⟨by rfl, ?_⟩) hHeld ?_ ?_
                                        rotate_left
                                        · rintro w' ⟨s0, s1, s2, s3, s4, s5, s6, s7, s8, s9⟩
                                          go_simp
                                          with_reducible rfl
                                        rotate_left
                                        · simp only [Act.put, List.setIfInBounds_toArray, List.set_cons_zero, List.set_cons_succ, i64_w, i32_w]
                                          rfl
                                        refine one_ (i := 26) (N := some 131) #[true, true, true, true, true, true, true, true, true, true, true, true, true, true, true, true, true, true, true, true, true, true, true, true, true, true, true, true, true, true, true, false, false, false, false, false, false, false, false, false, false, false, false] rfl rfl (one_of HT_.out (by kernel_rfl)) (by decide) (fun K hK => ?_)
                                        refine goes_ Try.func11 (by kernel_rfl) rfl #[.pointer (some ⟨g109, 0, none⟩)] (by rfl) rfl rfl (by (try simp only [List.map_toArray, List.map_cons, List.map_nil]); first | done | rfl | (simp only [List.length_drop, List.length_take]; rfl)) ?_
                                        with_reducible refine (clock_Clock_Rest.calls g109 t169 t170 t171 t172 t173 t175 t176 t177 t178 t179 t180 w _ ?side1 ?side2 A66.out).mono ?_
                                        (case side1 => repeat (first | (with_reducible first | exact HI109.out | apply IsS55.alloc | apply IsS55.drewN | apply IsS55.drew | apply IsS55.set_0 | apply IsS55.set_1 | apply IsS55.set_2 | apply IsS55.set_3 | apply IsS55.set_4 | refine IsS55.far ?_ NB109_101.out _ | refine IsS55.far ?_ NB109_122.out _) | exact HI109.out))
                                        (case side2 => repeat (first | (with_reducible first | exact HB.out | apply below_alloc | apply pw_below_drewN | apply below_drew1 | refine below_set ?_ (IsS55.ge HI109.out) | refine below_set ?_ (IsS51.ge HI118.out) | refine below_set ?_ GE101.out | refine below_set ?_ GE122.out) | exact HB.out))
                                        rintro e w76 ⟨rfl, hi, hb, hk⟩
                                        refine ⟨_, rfl, ?_⟩
                                        have n0_ := Aside0.mk (KeepBut.blk hk (g' := gb101) (o := .cells #[.int .u64 a2_0, .int .u64 a2_1] 24 (0, 0)) (by (with_reducible repeat (first | refine blk_drewN ?_ _ | refine blk_drew ?_ | refine blk_alloc ?_ _)); exact BK101.out) NB101_109.out (by simp))
                                        have n1_ := Aside0.mk (KeepBut.blk hk (g' := gb122) (o := .cells #[.int .i64 ((rd_T48 l3 x13_2).f0), .int .u64 ((rd_T48 l3 x13_2).f1), .int .u64 ((rd_T48 l3 x13_2).f2), .int .u64 ((rd_T48 l3 x13_2).f3.f0), .int .u64 ((rd_T48 l3 x13_2).f3.f1)] 48 (0, 0)) (by (with_reducible repeat (first | refine blk_drewN ?_ _ | refine blk_drew ?_ | refine blk_alloc ?_ _)); exact BK122.out) NB122_109.out (by simp))
                                        have n2_ := Aside0.mk (IsS51.kept (show IsS51 w _ g118 x119000_29 x119001_29 x119002_29 x119003_29 x119004_29 from by repeat (first | (with_reducible first | exact HI118.out | apply IsS51.alloc | apply IsS51.drewN | apply IsS51.drew | apply IsS51.set_0 | apply IsS51.set_1 | apply IsS51.set_2 | apply IsS51.set_3 | apply IsS51.set_4 | refine IsS51.far ?_ NB118_101.out _ | refine IsS51.far ?_ NB118_122.out _) | exact HI118.out)) ⟨hk.1, fun i_ hi_ hs_ => hk.2 i_ hi_ hs_ (by simp)⟩ (NB118_109.out))
                                        have n3_ := Aside0.mk (hb)
                                        have n4_ := Aside0.mk (hi)
                                        clear BK101
                                        clear BK122
                                        clear HI118
                                        clear HB
                                        clear HI109
                                        have BK101 := n0_
                                        have BK122 := n1_
                                        have HI118 := n2_
                                        have HB := n3_
                                        have HI109 := n4_
                                        clear n0_ n1_ n2_ n3_ n4_
                                        (try clear hb)
                                        (try clear hb2)
                                        (try clear hk)
                                        (try clear hi)
                                        refine hK.out _ _ ⟨(blk_cell BK122.out 0).trans rfl, (blk_cell BK122.out 1).trans rfl, (blk_cell BK122.out 2).trans rfl, (blk_cell BK122.out 3).trans rfl, (blk_cell BK122.out 4).trans rfl, (blk_cell (Aside0.mk HI118.out.1).out 0).trans rfl, (blk_cell (Aside0.mk HI118.out.1).out 1).trans rfl, (blk_cell (Aside0.mk HI118.out.1).out 2).trans rfl, (blk_cell (Aside0.mk HI118.out.1).out 3).trans rfl, (blk_cell (Aside0.mk HI118.out.1).out 4).trans rfl⟩ (fun hHeld => ?_)
                                        clear hK K
                                        refine norm_ (a' := ?_) ?_ ?_
                                        rotate_left
                                        · show Act.put _ (some 131) _ = _
                                          simp only [Act.put, List.setIfInBounds_toArray, List.set_cons_zero, List.set_cons_succ, i64_w, i32_w]
                                          rfl
                                        refine pure_ (i := 31) (N := some 136) (v := ?_) (a' := ?_) #[true, true, true, true, true, true, true, true, true, true, true, true, true, true, true, true, true, true, true, true, true, true, true, true, true, true, true, true, true, true, true, true, false, false, false, false, false, false, false, false, false, false, false] rfl rfl (any_of HT_.out (by kernel_rfl)) (fun _ _ _ h => h) (Or.inl ⟨by rfl, ?_⟩) ?_ ?_
                                        rotate_left
                                        · intro w'
                                          go_simp
                                          with_reducible rfl
                                        rotate_left
                                        · simp only [Act.put, List.setIfInBounds_toArray, List.set_cons_zero, List.set_cons_succ, i64_w, i32_w]
                                          rfl
                                        refine pure_ (i := 32) (N := some 137) (v := ?_) (a' := ?_) #[true, true, true, true, true, true, true, true, true, true, true, true, true, true, true, true, true, true, true, true, true, true, true, true, true, true, true, true, true, true, true, true, true, false, false, false, false, false, false, false, false, false, false] rfl rfl (any_of HT_.out (by kernel_rfl)) (fun _ _ _ h => h) (Or.inl ⟨by rfl, ?_⟩) ?_ ?_
                                        rotate_left
                                        · intro w'
                                          go_simp
                                          with_reducible rfl
                                        rotate_left
                                        · simp only [Act.put, List.setIfInBounds_toArray, List.set_cons_zero, List.set_cons_succ, i64_w, i32_w]
                                          rfl
                                        refine pure_ (i := 33) (N := some 138) (v := ?_) (a' := ?_) #[true, true, true, true, true, true, true, true, true, true, true, true, true, true, true, true, true, true, true, true, true, true, true, true, true, true, true, true, true, true, true, true, true, true, false, false, false, false, false, false, false, false, false] rfl rfl (any_of HT_.out (by kernel_rfl)) (fun _ _ _ h => h) (Or.inl ⟨by rfl, ?_⟩) ?_ ?_
                                        rotate_left
                                        · intro w'
                                          go_simp
                                          with_reducible rfl
                                        rotate_left
                                        · simp only [Act.put, List.setIfInBounds_toArray, List.set_cons_zero, List.set_cons_succ, i64_w, i32_w]
                                          rfl
                                        refine pure_ (i := 34) (N := some 139) (v := ?_) (a' := ?_) #[true, true, true, true, true, true, true, true, true, true, true, true, true, true, true, true, true, true, true, true, true, true, true, true, true, true, true, true, true, true, true, true, true, true, true, false, false, false, false, false, false, false, false] rfl rfl (any_of HT_.out (by kernel_rfl)) (fun _ _ _ h => h) (Or.inl ⟨by rfl, ?_⟩) ?_ ?_
                                        rotate_left
                                        · intro w'
                                          go_simp
                                          with_reducible rfl
                                        rotate_left
                                        · simp only [Act.put, List.setIfInBounds_toArray, List.set_cons_zero, List.set_cons_succ, i64_w, i32_w]
                                          rfl
                                        refine pure_ (i := 37) (N := some 142) (v := ?_) (a' := ?_) #[true, true, true, true, true, true, true, true, true, true, true, true, true, true, true, true, true, true, true, true, true, true, true, true, true, true, true, true, true, true, true, true, true, true, true, false, false, true, false, false, false, false, false] rfl rfl (any_of HT_.out (by kernel_rfl)) (fun _ _ _ h => h) (Or.inl ⟨by rfl, ?_⟩) ?_ ?_
                                        rotate_left
                                        · intro w'
                                          go_simp
                                          with_reducible rfl
                                        rotate_left
                                        · simp only [Act.put, List.setIfInBounds_toArray, List.set_cons_zero, List.set_cons_succ, i64_w, i32_w]
                                          rfl
                                        refine pure_ (i := 38) (N := some 143) (v := ?_) (a' := ?_) #[true, true, true, true, true, true, true, true, true, true, true, true, true, true, true, true, true, true, true, true, true, true, true, true, true, true, true, true, true, true, true, true, true, true, true, false, false, true, true, false, false, false, false] rfl rfl (any_of HT_.out (by kernel_rfl)) (fun _ _ _ h => h) (Or.inl ⟨by rfl, ?_⟩) ?_ ?_
                                        rotate_left
                                        · intro w'
                                          go_simp
                                          with_reducible rfl
                                        rotate_left
                                        · simp only [Act.put, List.setIfInBounds_toArray, List.set_cons_zero, List.set_cons_succ, i64_w, i32_w]
                                          rfl
                                        refine pure_ (i := 39) (N := some 144) (v := ?_) (a' := ?_) #[true, true, true, true, true, true, true, true, true, true, true, true, true, true, true, true, true, true, true, true, true, true, true, true, true, true, true, true, true, true, true, true, true, true, true, false, false, true, true, true, false, false, false] rfl rfl (any_of HT_.out (by kernel_rfl)) (fun _ _ _ h => h) (Or.inl ⟨by rfl, ?_⟩) ?_ ?_
                                        rotate_left
                                        · intro w'
                                          go_simp
                                          with_reducible rfl
                                        rotate_left
                                        · simp only [Act.put, List.setIfInBounds_toArray, List.set_cons_zero, List.set_cons_succ, i64_w, i32_w]
                                          rfl
                                        refine take_ (i := 40) (N := some 145) (v := ?_) (a' := ?_) #[true, true, true, true, true, true, true, true, true, true, true, true, true, true, true, true, true, true, true, true, true, true, true, true, true, true, true, true, true, true, true, true, true, true, true, false, false, true, true, true, true, false, false] rfl rfl (take_ofW HT_.out HW_.out (by kernel_rfl)) (fun _ _ _ h => h) (Or.inl ⟨by rfl, ?_⟩) hHeld ?_ ?_
                                        rotate_left
                                        · rintro w' ⟨s0, s1, s2, s3, s4, s5, s6, s7, s8, s9⟩
                                          go_simp
                                          with_reducible rfl
                                        rotate_left
                                        · simp only [Act.put, List.setIfInBounds_toArray, List.set_cons_zero, List.set_cons_succ, i64_w, i32_w]
                                          rfl
                                        refine one_ (i := 35) (N := some 140) #[true, true, true, true, true, true, true, true, true, true, true, true, true, true, true, true, true, true, true, true, true, true, true, true, true, true, true, true, true, true, true, true, true, true, true, true, false, true, true, true, true, false, false] rfl rfl (one_of HT_.out (by kernel_rfl)) (by decide) (fun K hK => ?_)
                                        refine goes_ Try.func22 (by kernel_rfl) rfl #[.pointer (some ⟨g109, 0, none⟩)] (by rfl) rfl rfl (by (try simp only [List.map_toArray, List.map_cons, List.map_nil]); first | done | rfl | (simp only [List.length_drop, List.length_take]; rfl)) ?_
                                        with_reducible refine (clock_Clock_Speed.calls g109 t176 t177 t178 t179 t180 t181 t182 t183 t184 t185 t186 t187 w _ ?side1 ?side2 A68.out).mono ?_
                                        (case side1 => repeat (first | (with_reducible first | exact HI109.out | apply IsS55.alloc | apply IsS55.drewN | apply IsS55.drew | apply IsS55.set_0 | apply IsS55.set_1 | apply IsS55.set_2 | apply IsS55.set_3 | apply IsS55.set_4 | refine IsS55.far ?_ NB109_101.out _ | refine IsS55.far ?_ NB109_122.out _) | exact HI109.out))
                                        (case side2 => repeat (first | (with_reducible first | exact HB.out | apply below_alloc | apply pw_below_drewN | apply below_drew1 | refine below_set ?_ (IsS55.ge HI109.out) | refine below_set ?_ (IsS51.ge HI118.out) | refine below_set ?_ GE101.out | refine below_set ?_ GE122.out) | exact HB.out))
                                        rintro e w77 ⟨rfl, hi, hb, hk⟩
                                        refine ⟨_, rfl, ?_⟩
                                        have n0_ := Aside0.mk (KeepBut.blk hk (g' := gb101) (o := .cells #[.int .u64 a2_0, .int .u64 a2_1] 24 (0, 0)) (by (with_reducible repeat (first | refine blk_drewN ?_ _ | refine blk_drew ?_ | refine blk_alloc ?_ _)); exact BK101.out) NB101_109.out (by simp))
                                        have n1_ := Aside0.mk (KeepBut.blk hk (g' := gb122) (o := .cells #[.int .i64 ((rd_T48 l3 x13_2).f0), .int .u64 ((rd_T48 l3 x13_2).f1), .int .u64 ((rd_T48 l3 x13_2).f2), .int .u64 ((rd_T48 l3 x13_2).f3.f0), .int .u64 ((rd_T48 l3 x13_2).f3.f1)] 48 (0, 0)) (by (with_reducible repeat (first | refine blk_drewN ?_ _ | refine blk_drew ?_ | refine blk_alloc ?_ _)); exact BK122.out) NB122_109.out (by simp))
                                        have n2_ := Aside0.mk (IsS51.kept (show IsS51 w _ g118 x119000_29 x119001_29 x119002_29 x119003_29 x119004_29 from by repeat (first | (with_reducible first | exact HI118.out | apply IsS51.alloc | apply IsS51.drewN | apply IsS51.drew | apply IsS51.set_0 | apply IsS51.set_1 | apply IsS51.set_2 | apply IsS51.set_3 | apply IsS51.set_4 | refine IsS51.far ?_ NB118_101.out _ | refine IsS51.far ?_ NB118_122.out _) | exact HI118.out)) ⟨hk.1, fun i_ hi_ hs_ => hk.2 i_ hi_ hs_ (by simp)⟩ (NB118_109.out))
                                        have n3_ := Aside0.mk (hb)
                                        have n4_ := Aside0.mk (hi)
                                        clear BK101
                                        clear BK122
                                        clear HI118
                                        clear HB
                                        clear HI109
                                        have BK101 := n0_
                                        have BK122 := n1_
                                        have HI118 := n2_
                                        have HB := n3_
                                        have HI109 := n4_
                                        clear n0_ n1_ n2_ n3_ n4_
                                        (try clear hb)
                                        (try clear hb2)
                                        (try clear hk)
                                        (try clear hi)
                                        refine hK.out _ _ ⟨(blk_cell BK122.out 0).trans rfl, (blk_cell BK122.out 1).trans rfl, (blk_cell BK122.out 2).trans rfl, (blk_cell BK122.out 3).trans rfl, (blk_cell BK122.out 4).trans rfl, (blk_cell (Aside0.mk HI118.out.1).out 0).trans rfl, (blk_cell (Aside0.mk HI118.out.1).out 1).trans rfl, (blk_cell (Aside0.mk HI118.out.1).out 2).trans rfl, (blk_cell (Aside0.mk HI118.out.1).out 3).trans rfl, (blk_cell (Aside0.mk HI118.out.1).out 4).trans rfl⟩ (fun hHeld => ?_)
                                        clear hK K
                                        refine norm_ (a' := ?_) ?_ ?_
                                        rotate_left
                                        · show Act.put _ (some 140) _ = _
                                          simp only [Act.put, List.setIfInBounds_toArray, List.set_cons_zero, List.set_cons_succ, i64_w, i32_w]
                                          rfl
                                        refine one_ (i := 36) (N := some 141) #[true, true, true, true, true, true, true, true, true, true, true, true, true, true, true, true, true, true, true, true, true, true, true, true, true, true, true, true, true, true, true, true, true, true, true, true, true, true, true, true, true, false, false] rfl rfl (one_of HT_.out (by kernel_rfl)) (by decide) (fun K hK => ?_)
                                        refine goes_ Try.func17 (by kernel_rfl) rfl #[.agg #[.int .u64 t181, .int .u64 t182]] (by rfl) rfl rfl (by (try simp only [List.map_toArray, List.map_cons, List.map_nil]); first | done | rfl | (simp only [List.length_drop, List.length_take]; rfl)) ?_
                                        with_reducible refine (tiklaw22_plain.calls t181 t182 t188 t189 _ A69.out).mono ?_
                                        rintro e w78 ⟨rfl, hb⟩
                                        refine ⟨_, rfl, ?_⟩
                                        have n0_ := Aside0.mk (blk_below (g := gb101) (o := .cells #[.int .u64 a2_0, .int .u64 a2_1] 24 (0, 0)) (by (with_reducible repeat (first | refine blk_drewN ?_ _ | refine blk_drew ?_ | refine blk_alloc ?_ _)); exact BK101.out) hb)
                                        have n1_ := Aside0.mk (blk_below (g := gb122) (o := .cells #[.int .i64 ((rd_T48 l3 x13_2).f0), .int .u64 ((rd_T48 l3 x13_2).f1), .int .u64 ((rd_T48 l3 x13_2).f2), .int .u64 ((rd_T48 l3 x13_2).f3.f0), .int .u64 ((rd_T48 l3 x13_2).f3.f1)] 48 (0, 0)) (by (with_reducible repeat (first | refine blk_drewN ?_ _ | refine blk_drew ?_ | refine blk_alloc ?_ _)); exact BK122.out) hb)
                                        have n2_ := Aside0.mk (IsS55.below (by repeat (first | (with_reducible first | exact HI109.out | apply IsS55.alloc | apply IsS55.drewN | apply IsS55.drew | apply IsS55.set_0 | apply IsS55.set_1 | apply IsS55.set_2 | apply IsS55.set_3 | apply IsS55.set_4 | refine IsS55.far ?_ NB109_101.out _ | refine IsS55.far ?_ NB109_122.out _) | exact HI109.out)) hb)
                                        have n3_ := Aside0.mk (IsS51.below (by repeat (first | (with_reducible first | exact HI118.out | apply IsS51.alloc | apply IsS51.drewN | apply IsS51.drew | apply IsS51.set_0 | apply IsS51.set_1 | apply IsS51.set_2 | apply IsS51.set_3 | apply IsS51.set_4 | refine IsS51.far ?_ NB118_101.out _ | refine IsS51.far ?_ NB118_122.out _) | exact HI118.out)) hb)
                                        have n4_ := Aside0.mk (below_step (by repeat (first | (with_reducible first | exact HB.out | apply below_alloc | apply pw_below_drewN | apply below_drew1 | refine below_set ?_ (IsS55.ge HI109.out) | refine below_set ?_ (IsS51.ge HI118.out) | refine below_set ?_ GE101.out | refine below_set ?_ GE122.out) | exact HB.out)) hb)
                                        clear BK101
                                        clear BK122
                                        clear HI109
                                        clear HI118
                                        clear HB
                                        have BK101 := n0_
                                        have BK122 := n1_
                                        have HI109 := n2_
                                        have HI118 := n3_
                                        have HB := n4_
                                        clear n0_ n1_ n2_ n3_ n4_
                                        (try clear hb)
                                        (try clear hb2)
                                        (try clear hk)
                                        (try clear hi)
                                        refine hK.out _ _ ⟨(blk_cell BK122.out 0).trans rfl, (blk_cell BK122.out 1).trans rfl, (blk_cell BK122.out 2).trans rfl, (blk_cell BK122.out 3).trans rfl, (blk_cell BK122.out 4).trans rfl, (blk_cell (Aside0.mk HI118.out.1).out 0).trans rfl, (blk_cell (Aside0.mk HI118.out.1).out 1).trans rfl, (blk_cell (Aside0.mk HI118.out.1).out 2).trans rfl, (blk_cell (Aside0.mk HI118.out.1).out 3).trans rfl, (blk_cell (Aside0.mk HI118.out.1).out 4).trans rfl⟩ (fun hHeld => ?_)
                                        clear hK K
                                        refine norm_ (a' := ?_) ?_ ?_
                                        rotate_left
                                        · show Act.put _ (some 141) _ = _
                                          simp only [Act.put, List.setIfInBounds_toArray, List.set_cons_zero, List.set_cons_succ, i64_w, i32_w]
                                          rfl
                                        refine pure_ (i := 41) (N := some 146) (v := ?_) (a' := ?_) #[true, true, true, true, true, true, true, true, true, true, true, true, true, true, true, true, true, true, true, true, true, true, true, true, true, true, true, true, true, true, true, true, true, true, true, true, true, true, true, true, true, true, false] rfl rfl (any_of HT_.out (by kernel_rfl)) (fun _ _ _ h => h) (Or.inl ⟨by rfl, ?_⟩) ?_ ?_
                                        rotate_left
                                        · intro w'
                                          go_simp
                                          with_reducible rfl
                                        rotate_left
                                        · simp only [Act.put, List.setIfInBounds_toArray, List.set_cons_zero, List.set_cons_succ, i64_w, i32_w]
                                          rfl
                                        refine pure_ (i := 42) (N := some 147) (v := ?_) (a' := ?_) #[true, true, true, true, true, true, true, true, true, true, true, true, true, true, true, true, true, true, true, true, true, true, true, true, true, true, true, true, true, true, true, true, true, true, true, true, true, true, true, true, true, true, true] rfl rfl (any_of HT_.out (by kernel_rfl)) (fun _ _ _ h => h) (Or.inl ⟨by rfl, ?_⟩) ?_ ?_
                                        rotate_left
                                        · intro w'
                                          go_simp
                                          with_reducible rfl
                                        rotate_left
                                        · simp only [Act.put, List.setIfInBounds_toArray, List.set_cons_zero, List.set_cons_succ, i64_w, i32_w]
                                          rfl
                                        refine done_ (done_of HT_.out (by kernel_rfl)) ?_
                                        try go_wp2
                                        go_roundg kj29
                                        case measure => have := HJ14.out; have := HK2.out; have := HJ25.out; have := HJ29.out; omega
                                        case rel => exact ⟨(wrap64 (x13_2 + 1)), (t183), (t184), (t185), (t186), (t187), (x119000_29), (x119001_29), (x119002_29), (x119003_29), (x119004_29), (by first | rfl | (simp; done) | (simp [*]; done)), H', ⟨by have := HJ14.out; have := HK2.out; have := HJ25.out; have := HJ29.out; omega⟩, ⟨by (with_reducible repeat (first | refine blk_drewN ?_ _ | refine blk_drew ?_ | refine blk_alloc ?_ _)); exact BK101.out⟩, ⟨by repeat (first | (with_reducible first | exact HI109.out | apply IsS55.alloc | apply IsS55.drewN | apply IsS55.drew | apply IsS55.set_0 | apply IsS55.set_1 | apply IsS55.set_2 | apply IsS55.set_3 | apply IsS55.set_4 | refine IsS55.far ?_ NB109_101.out _ | refine IsS55.far ?_ NB109_122.out _) | exact HI109.out)⟩, ⟨by repeat (first | (with_reducible first | exact HI118.out | apply IsS51.alloc | apply IsS51.drewN | apply IsS51.drew | apply IsS51.set_0 | apply IsS51.set_1 | apply IsS51.set_2 | apply IsS51.set_3 | apply IsS51.set_4 | refine IsS51.far ?_ NB118_101.out _ | refine IsS51.far ?_ NB118_122.out _) | exact HI118.out)⟩, ⟨by repeat (first | (with_reducible first | exact HB.out | apply below_alloc | apply pw_below_drewN | apply below_drew1 | refine below_set ?_ (IsS55.ge HI109.out) | refine below_set ?_ (IsS51.ge HI118.out) | refine below_set ?_ GE101.out | refine below_set ?_ GE122.out) | exact HB.out)⟩⟩
                                    · rw [if_neg c67] at H
                                      have c67b0 : (t175 == x119002_29) = false := beq_eq_false_iff_ne.mpr c67
                                      have c67b1 : (t175 != x119002_29) = true := bne_iff_ne.mpr c67
                                      exact absurd ((Option.some.inj H).trans hr_.out) (by simp)
                                  · rw [if_neg c65] at H
                                    have c65b0 : (t168 == t174) = false := beq_eq_false_iff_ne.mpr c65
                                    have c65b1 : (t168 != t174) = true := bne_iff_ne.mpr c65
                                    exact absurd ((Option.some.inj H).trans hr_.out) (by simp)
                                · rw [if_neg c62] at H
                                  have c62b0 : (t161 == t167) = false := beq_eq_false_iff_ne.mpr c62
                                  have c62b1 : (t161 != t167) = true := bne_iff_ne.mpr c62
                                  exact absurd ((Option.some.inj H).trans hr_.out) (by simp)
                              · replace c59 := Bool.eq_false_iff.mpr c59
                                subst c59
                                have H1 : (some false) = some r := by rw [if_neg (show ¬ (false = true) by decide)] at H; exact H
                                clear H
                                have H := H1
                                clear H1
                                exact absurd ((Option.some.inj H).trans hr_.out) (by simp)
                        · rw [if_neg c29] at H
                          exact absurd H (by simp)
                      · rw [if_neg c28] at H
                        exact absurd H (by simp)
                    · replace c27 := Bool.eq_false_iff.mpr c27
                      subst c27
                      have H1 : ((tiklaw22_first.f).bind fun t120 => (some t120)) = some r := by rw [if_neg (show ¬ (false = true) by decide)] at H; exact H
                      clear H
                      have H := H1
                      clear H1
                      replace H := Option.bind_eq_some_iff.mp H
                      obtain ⟨t120, A790, H⟩ := H
                      replace H : (some t120) = some r := H
                      have A79 := Aside0.mk A790
                      clear A790
                      obtain rfl := Option.some.inj H
                      go_wp2_with (first | ((with_reducible refine gate_callee (f := 7) rfl ?_); refine goesL_ (some 148) rfl rfl Try.func7 (by kernel_rfl) rfl #[] rfl (by (try simp only [List.map_toArray, List.map_cons, List.map_nil]); first | done | rfl | (simp only [List.length_drop, List.length_take]; rfl)) ?_; (with_reducible refine (tiklaw22_first.calls  t120 _ A79.out).mono ?_); rintro e w80 ⟨rfl, hb⟩; refine ⟨_, rfl, ?_⟩; have n0_ := Aside0.mk (blk_below (g := gb101) (o := .cells #[.int .u64 a2_0, .int .u64 a2_1] 24 (0, 0)) (by (with_reducible repeat (first | refine blk_drewN ?_ _ | refine blk_drew ?_ | refine blk_alloc ?_ _)); exact BK101.out) hb); have n1_ := Aside0.mk (IsS55.below (by repeat (first | (with_reducible first | exact HI109.out | apply IsS55.alloc | apply IsS55.drewN | apply IsS55.drew | apply IsS55.set_0 | apply IsS55.set_1 | apply IsS55.set_2 | apply IsS55.set_3 | apply IsS55.set_4 | refine IsS55.far ?_ NB109_101.out _) | exact HI109.out)) hb); have n2_ := Aside0.mk (IsS51.below (by repeat (first | (with_reducible first | exact HI118.out | apply IsS51.alloc | apply IsS51.drewN | apply IsS51.drew | apply IsS51.set_0 | apply IsS51.set_1 | apply IsS51.set_2 | apply IsS51.set_3 | apply IsS51.set_4 | refine IsS51.far ?_ NB118_101.out _) | exact HI118.out)) hb); have n3_ := Aside0.mk (below_step (by repeat (first | (with_reducible first | exact HB.out | apply below_alloc | apply pw_below_drewN | apply below_drew1 | refine below_set ?_ (IsS55.ge HI109.out) | refine below_set ?_ (IsS51.ge HI118.out) | refine below_set ?_ GE101.out) | exact HB.out)) hb); clear BK101; clear HI109; clear HI118; clear HB; have BK101 := n0_; have HI109 := n1_; have HI118 := n2_; have HB := n3_; clear n0_ n1_ n2_ n3_; (try clear hb); (try clear hb2); (try clear hk); (try clear hi)))
                      go_ret
                      exact ⟨by first | rfl | (simp [errW_none, errW_some] <;> rfl) | (simp [*, errW_none, errW_some] <;> rfl), by repeat (first | (with_reducible first | exact HB.out | apply below_alloc | apply pw_below_drewN | apply below_drew1 | refine below_set ?_ (IsS55.ge HI109.out) | refine below_set ?_ (IsS51.ge HI118.out) | refine below_set ?_ GE101.out) | exact HB.out)⟩
  · replace c6 := Bool.eq_false_iff.mpr c6
    subst c6
    have H1 : (some false) = some r := by rw [if_neg (show ¬ (false = true) by decide)] at H; exact H
    clear H
    have H := H1
    clear H1
    exact absurd ((Option.some.inj H).trans hr_.out) (by simp)

end Go.Proofs.Ytcfndcjbgalnpaa.PG
