-- written for this claim by mp.py (this repo), with the kit's print; checked by the kernel alone
import Derived.Test.YtabljieejnhefaaDoorPCx0
import Derived.Test.YtabljieejnhefaaDoorPCx1
namespace Go.Proofs.YtabljieejnhefaaDoor.PC
open Go.RowKit Go.Proofs.YtabljieejnhefaaDoorW.PrintWords Go.Proofs.YtabljieejnhefaaDoorW.PrintLast Go.Proofs.YtabljieejnhefaaDoorW.PrintMore
attribute [local go_sem] max2_int min2_int max_two min_two max_three min_three max_four min_four   -- for this text's walks alone
open Go.Proofs.YtabljieejnhefaaDoor.Hand
open Go.Proofs.YtabljieejnhefaaDoor.PB
set_option linter.unusedVariables false
set_option linter.unusedSimpArgs false

attribute [local go_sem high] eqA25
/-! ### tiklaw6_CellMay: function 4 -/
def tiklaw6_CellMay.f (k : Nat) (a0 : Int) (a1_0 : Int) (a1_1 : Int) (a1_2 : Int) : Option (Bool) := (tiklaw6_first.f k).bind fun t102 => (if t102 = true then ((cell_Blank.f a1_0 a1_1 a1_2).bind fun bt106 => ((cell_MayAttr.f a1_0 a1_1 a1_2).bind fun t112 => (if t112 = true then ((cell_Width.f a0).bind fun t117 => ((tiklaw6_first.f k).bind fun t118 => (if t118 = true then (if t117 ≥ 0 then (if t117 ≤ 2 then ((cell_May.f k bt106.1 bt106.2.1 bt106.2.2.1 bt106.2.2.2.1 bt106.2.2.2.2).bind fun t119 => (if t119 = true then ((cell_Blank.f bt106.2.1 bt106.2.2.1 bt106.2.2.2.1).bind fun bt120 => (if (bt120.1 == bt106.1 && ((bt120.2.1 == bt106.2.1 && (bt120.2.2.1 == bt106.2.2.1 && (bt120.2.2.2.1 == bt106.2.2.2.1))) && (bt120.2.2.2.2 == bt106.2.2.2.2))) = true then ((cell_May.f k a0 a1_0 a1_1 a1_2 0).bind fun t125 => (if (t125 == (t117 == 1)) = true then ((cell_May.f k a0 a1_0 a1_1 a1_2 1).bind fun t126 => (if (t126 == (t117 == 2)) = true then ((cell_May.f k 0 a1_0 a1_1 a1_2 2).bind fun t127 => (if t127 = true then (if bt106.2.1 = 0 then (if bt106.2.2.1 = 0 then (some (bt106.2.2.2.1 == a1_2)) else (some false)) else (some false)) else (some false))) else (some false))) else (some false))) else (some false))) else (some false))) else (some false)) else (some false)) else (some false)))) else ((tiklaw6_first.f k).bind fun t113 => (if t113 = true then ((cell_May.f k a0 a1_0 a1_1 a1_2 0).bind fun t114 => (if t114 = true then (some false) else ((cell_May.f k a0 a1_0 a1_1 a1_2 1).bind fun t115 => (if t115 = true then (some false) else ((cell_May.f k 0 a1_0 a1_1 a1_2 2).bind fun t116 => (some (!t116))))))) else (some false)))))) else (some false))
theorem tiklaw6_CellMay.mono : ∀ a0 a1 a2 a3 k, LeO (tiklaw6_CellMay.f k a0 a1 a2 a3) (tiklaw6_CellMay.f (k + 1) a0 a1 a2 a3) := by
 intro a0 a1 a2 a3 k
 unfold tiklaw6_CellMay.f
 repeat' first
   | (with_reducible exact cell_May.mono _ _ _ _ _ _)
   | (with_reducible exact tiklaw6_first.mono _)
   | (with_reducible exact LeO.refl _)
   | (with_reducible exact LeO.none _)
   | (with_reducible refine LeO.ite ?_ ?_)
   | (with_reducible refine LeO.bind ?_ (fun _ => ?_))
   | exact cell_May.mono _ _ _ _ _ _
   | exact tiklaw6_first.mono _
   | exact LeO.none _
   | refine LeO.ite ?_ ?_
   | refine LeO.bind ?_ (fun _ => ?_)
def tiklaw6_CellMay.T3 : Bool × List (List Nat × List Nat) := (true, [([], []), ([], []), ([0, 1], [0, 1]), ([], []), ([], []), ([3, 4], [3, 4]), ([], []), ([6], [6]), ([], []), ([], []), ([], []), ([8, 2, 0, 1, 2, 8, 9, 10], [2, 8]), ([9, 5, 11, 0, 1, 2, 3, 4, 5, 8, 9, 10, 11], [5, 9]), ([10, 7, 12, 0, 1, 2, 3, 4, 5, 6, 7, 8, 9, 10, 11, 12], [7, 10])])
def tiklaw6_CellMay.B3 : List Nat := [0, 0, 3, 0, 0, 24, 0, 64, 0, 0, 0, 1799, 3903, 8191]
theorem tiklaw6_CellMay.tab3 : rtab .any (opsOf Tryd.f4 3) = tiklaw6_CellMay.T3 := by kernel_rfl
theorem tiklaw6_CellMay.bits3 : waitsOk tiklaw6_CellMay.T3.2 tiklaw6_CellMay.B3 = true := by kernel_rfl
def tiklaw6_CellMay.T8 : Bool × List (List Nat × List Nat) := (true, [([], []), ([0, 0], [0]), ([1], [1]), ([2, 1], [1, 2]), ([1, 3], [1, 3]), ([4, 1], [4]), ([5], [5]), ([6, 5], [5, 6]), ([5, 7], [5, 7]), ([8, 5], [8]), ([9], [9]), ([10, 9, 9], [9, 10]), ([9, 11], [9, 11]), ([12, 11], [12]), ([13], [13]), ([14, 13], [13, 14]), ([15, 13, 13], [13, 15]), ([13], [13]), ([16, 17, 13], [13, 16, 17]), ([13, 18], [13, 18]), ([19, 16], [19]), ([20], [20]), ([21, 20, 20], [20, 21]), ([20], [20]), ([23, 20], [20, 23]), ([22, 24, 20], [20, 22, 24]), ([20, 25], [20, 25]), ([26, 22], [26]), ([27], [27]), ([28, 27, 27], [27, 28]), ([27], [27]), ([30, 27], [27, 30]), ([29, 31, 27], [27, 29, 31]), ([27, 32], [27, 32]), ([33, 29], [33]), ([34], [34]), ([35, 34, 34], [34, 35]), ([34, 36], [34, 36]), ([37, 36], [37]), ([38], [38]), ([39, 38], [38, 39]), ([40, 38], [38, 40]), ([41, 38], [38, 41]), ([38, 42], [38, 42]), ([43, 38], [43]), ([44], [44]), ([45, 44], [44, 45]), ([46, 44], [44, 46]), ([47, 44], [44, 47]), ([44, 48], [44, 48]), ([49, 44], [49]), ([50], [50]), ([51, 50], [50, 51]), ([52, 50], [50, 52]), ([50], [50]), ([54, 50], [50, 54]), ([53, 55, 50], [50, 53, 55]), ([50, 56], [50, 56]), ([57, 50, 0, 1, 2, 3, 4, 5, 6, 7, 8, 9, 10, 11, 12, 13, 14, 15, 16, 17, 18, 19, 20, 21, 22, 23, 24, 25, 26, 27, 28, 29, 30, 31, 32, 33, 34, 35, 36, 37, 38, 39, 40, 41, 42, 43, 44, 45, 46, 47, 48, 49, 50, 51, 52, 53, 54, 55, 56, 57], [57])])
def tiklaw6_CellMay.B8 : List Nat := [0, 1, 3, 7, 15, 31, 63, 127, 255, 511, 1023, 2047, 4095, 8191, 16383, 32767, 65535, 16383, 262143, 524287, 1048575, 2097151, 4194303, 2097151, 10485759, 33554431, 67108863, 134217727, 268435455, 536870911, 268435455, 1342177279, 4294967295, 8589934591, 17179869183, 34359738367, 68719476735, 137438953471, 274877906943, 549755813887, 1099511627775, 2199023255551, 4398046511103, 8796093022207, 17592186044415, 35184372088831, 70368744177663, 140737488355327, 281474976710655, 562949953421311, 1125899906842623, 2251799813685247, 4503599627370495, 9007199254740991, 2251799813685247, 20266198323167231, 72057594037927935, 144115188075855871, 288230376151711743]
theorem tiklaw6_CellMay.tab8 : rtab .any (opsOf Tryd.f4 8) = tiklaw6_CellMay.T8 := by kernel_rfl
theorem tiklaw6_CellMay.bits8 : waitsOk tiklaw6_CellMay.T8.2 tiklaw6_CellMay.B8 = true := by kernel_rfl
set_option maxHeartbeats 8000000 in
set_option maxRecDepth 100000 in
theorem tiklaw6_CellMay.neg (k : Nat) (a0 : Int) (a1_0 : Int) (a1_1 : Int) (a1_2 : Int) (r : Bool) (w : World) (hT : TabW w) (hr_ : Aside0 (r = true)) (hx_ : cell_MayAttr.f a1_0 a1_1 a1_2 = some false) (h : tiklaw6_CellMay.f k a0 a1_0 a1_1 a1_2 = some r) :
  Calls Tryd.prog 4 #[.int .i32 a0, .agg #[.int .i64 a1_0, .int .i64 a1_1, .int .i64 a1_2]] w fun e w' => e = .returned (.bool r) ∧ Below w.heap.size w w' := by
 have HT := Aside0.mk hT
 clear hT
 have hu23 := Tryd.underlying23
 have hu25 := Tryd.underlying25
 have HB := Aside0.mk (Below.refl w.heap.size w)
 have H : ((tiklaw6_first.f k).bind fun t102 => (if t102 = true then ((cell_Blank.f a1_0 a1_1 a1_2).bind fun bt106 => ((cell_MayAttr.f a1_0 a1_1 a1_2).bind fun t112 => (if t112 = true then ((cell_Width.f a0).bind fun t117 => ((tiklaw6_first.f k).bind fun t118 => (if t118 = true then (if t117 ≥ 0 then (if t117 ≤ 2 then ((cell_May.f k bt106.1 bt106.2.1 bt106.2.2.1 bt106.2.2.2.1 bt106.2.2.2.2).bind fun t119 => (if t119 = true then ((cell_Blank.f bt106.2.1 bt106.2.2.1 bt106.2.2.2.1).bind fun bt120 => (if (bt120.1 == bt106.1 && ((bt120.2.1 == bt106.2.1 && (bt120.2.2.1 == bt106.2.2.1 && (bt120.2.2.2.1 == bt106.2.2.2.1))) && (bt120.2.2.2.2 == bt106.2.2.2.2))) = true then ((cell_May.f k a0 a1_0 a1_1 a1_2 0).bind fun t125 => (if (t125 == (t117 == 1)) = true then ((cell_May.f k a0 a1_0 a1_1 a1_2 1).bind fun t126 => (if (t126 == (t117 == 2)) = true then ((cell_May.f k 0 a1_0 a1_1 a1_2 2).bind fun t127 => (if t127 = true then (if bt106.2.1 = 0 then (if bt106.2.2.1 = 0 then (some (bt106.2.2.2.1 == a1_2)) else (some false)) else (some false)) else (some false))) else (some false))) else (some false))) else (some false))) else (some false))) else (some false)) else (some false)) else (some false)))) else ((tiklaw6_first.f k).bind fun t113 => (if t113 = true then ((cell_May.f k a0 a1_0 a1_1 a1_2 0).bind fun t114 => (if t114 = true then (some false) else ((cell_May.f k a0 a1_0 a1_1 a1_2 1).bind fun t115 => (if t115 = true then (some false) else ((cell_May.f k 0 a1_0 a1_1 a1_2 2).bind fun t116 => (some (!t116))))))) else (some false)))))) else (some false))) = some r := h
 clear h
 replace H := Option.bind_eq_some_iff.mp H
 obtain ⟨t102, A30, H⟩ := H
 replace H : (if t102 = true then ((cell_Blank.f a1_0 a1_1 a1_2).bind fun bt106 => ((cell_MayAttr.f a1_0 a1_1 a1_2).bind fun t112 => (if t112 = true then ((cell_Width.f a0).bind fun t117 => ((tiklaw6_first.f k).bind fun t118 => (if t118 = true then (if t117 ≥ 0 then (if t117 ≤ 2 then ((cell_May.f k bt106.1 bt106.2.1 bt106.2.2.1 bt106.2.2.2.1 bt106.2.2.2.2).bind fun t119 => (if t119 = true then ((cell_Blank.f bt106.2.1 bt106.2.2.1 bt106.2.2.2.1).bind fun bt120 => (if (bt120.1 == bt106.1 && ((bt120.2.1 == bt106.2.1 && (bt120.2.2.1 == bt106.2.2.1 && (bt120.2.2.2.1 == bt106.2.2.2.1))) && (bt120.2.2.2.2 == bt106.2.2.2.2))) = true then ((cell_May.f k a0 a1_0 a1_1 a1_2 0).bind fun t125 => (if (t125 == (t117 == 1)) = true then ((cell_May.f k a0 a1_0 a1_1 a1_2 1).bind fun t126 => (if (t126 == (t117 == 2)) = true then ((cell_May.f k 0 a1_0 a1_1 a1_2 2).bind fun t127 => (if t127 = true then (if bt106.2.1 = 0 then (if bt106.2.2.1 = 0 then (some (bt106.2.2.2.1 == a1_2)) else (some false)) else (some false)) else (some false))) else (some false))) else (some false))) else (some false))) else (some false))) else (some false)) else (some false)) else (some false)))) else ((tiklaw6_first.f k).bind fun t113 => (if t113 = true then ((cell_May.f k a0 a1_0 a1_1 a1_2 0).bind fun t114 => (if t114 = true then (some false) else ((cell_May.f k a0 a1_0 a1_1 a1_2 1).bind fun t115 => (if t115 = true then (some false) else ((cell_May.f k 0 a1_0 a1_1 a1_2 2).bind fun t116 => (some (!t116))))))) else (some false)))))) else (some false)) = some r := H
 have A3 := Aside0.mk A30
 clear A30
 by_cases c4 : t102 = true
 ·subst c4
  have H1 : ((cell_Blank.f a1_0 a1_1 a1_2).bind fun bt106 => ((cell_MayAttr.f a1_0 a1_1 a1_2).bind fun t112 => (if t112 = true then ((cell_Width.f a0).bind fun t117 => ((tiklaw6_first.f k).bind fun t118 => (if t118 = true then (if t117 ≥ 0 then (if t117 ≤ 2 then ((cell_May.f k bt106.1 bt106.2.1 bt106.2.2.1 bt106.2.2.2.1 bt106.2.2.2.2).bind fun t119 => (if t119 = true then ((cell_Blank.f bt106.2.1 bt106.2.2.1 bt106.2.2.2.1).bind fun bt120 => (if (bt120.1 == bt106.1 && ((bt120.2.1 == bt106.2.1 && (bt120.2.2.1 == bt106.2.2.1 && (bt120.2.2.2.1 == bt106.2.2.2.1))) && (bt120.2.2.2.2 == bt106.2.2.2.2))) = true then ((cell_May.f k a0 a1_0 a1_1 a1_2 0).bind fun t125 => (if (t125 == (t117 == 1)) = true then ((cell_May.f k a0 a1_0 a1_1 a1_2 1).bind fun t126 => (if (t126 == (t117 == 2)) = true then ((cell_May.f k 0 a1_0 a1_1 a1_2 2).bind fun t127 => (if t127 = true then (if bt106.2.1 = 0 then (if bt106.2.2.1 = 0 then (some (bt106.2.2.2.1 == a1_2)) else (some false)) else (some false)) else (some false))) else (some false))) else (some false))) else (some false))) else (some false))) else (some false)) else (some false)) else (some false)))) else ((tiklaw6_first.f k).bind fun t113 => (if t113 = true then ((cell_May.f k a0 a1_0 a1_1 a1_2 0).bind fun t114 => (if t114 = true then (some false) else ((cell_May.f k a0 a1_0 a1_1 a1_2 1).bind fun t115 => (if t115 = true then (some false) else ((cell_May.f k 0 a1_0 a1_1 a1_2 2).bind fun t116 => (some (!t116))))))) else (some false)))))) = some r := by rw [if_pos rfl] at H; exact H
  clear H
  have H := H1
  clear H1
  replace H := Option.bind_eq_some_iff.mp H
  obtain ⟨⟨t106, t107, t108, t109, t110⟩, A50, H⟩ := H
  replace H : ((cell_MayAttr.f a1_0 a1_1 a1_2).bind fun t112 => (if t112 = true then ((cell_Width.f a0).bind fun t117 => ((tiklaw6_first.f k).bind fun t118 => (if t118 = true then (if t117 ≥ 0 then (if t117 ≤ 2 then ((cell_May.f k t106 t107 t108 t109 t110).bind fun t119 => (if t119 = true then ((cell_Blank.f t107 t108 t109).bind fun bt120 => (if (bt120.1 == t106 && ((bt120.2.1 == t107 && (bt120.2.2.1 == t108 && (bt120.2.2.2.1 == t109))) && (bt120.2.2.2.2 == t110))) = true then ((cell_May.f k a0 a1_0 a1_1 a1_2 0).bind fun t125 => (if (t125 == (t117 == 1)) = true then ((cell_May.f k a0 a1_0 a1_1 a1_2 1).bind fun t126 => (if (t126 == (t117 == 2)) = true then ((cell_May.f k 0 a1_0 a1_1 a1_2 2).bind fun t127 => (if t127 = true then (if t107 = 0 then (if t108 = 0 then (some (t109 == a1_2)) else (some false)) else (some false)) else (some false))) else (some false))) else (some false))) else (some false))) else (some false))) else (some false)) else (some false)) else (some false)))) else ((tiklaw6_first.f k).bind fun t113 => (if t113 = true then ((cell_May.f k a0 a1_0 a1_1 a1_2 0).bind fun t114 => (if t114 = true then (some false) else ((cell_May.f k a0 a1_0 a1_1 a1_2 1).bind fun t115 => (if t115 = true then (some false) else ((cell_May.f k 0 a1_0 a1_1 a1_2 2).bind fun t116 => (some (!t116))))))) else (some false))))) = some r := H
  have A5 := Aside0.mk A50
  clear A50
  replace H := Option.bind_eq_some_iff.mp H
  obtain ⟨t112, A60, H⟩ := H
  replace H : (if t112 = true then ((cell_Width.f a0).bind fun t117 => ((tiklaw6_first.f k).bind fun t118 => (if t118 = true then (if t117 ≥ 0 then (if t117 ≤ 2 then ((cell_May.f k t106 t107 t108 t109 t110).bind fun t119 => (if t119 = true then ((cell_Blank.f t107 t108 t109).bind fun bt120 => (if (bt120.1 == t106 && ((bt120.2.1 == t107 && (bt120.2.2.1 == t108 && (bt120.2.2.2.1 == t109))) && (bt120.2.2.2.2 == t110))) = true then ((cell_May.f k a0 a1_0 a1_1 a1_2 0).bind fun t125 => (if (t125 == (t117 == 1)) = true then ((cell_May.f k a0 a1_0 a1_1 a1_2 1).bind fun t126 => (if (t126 == (t117 == 2)) = true then ((cell_May.f k 0 a1_0 a1_1 a1_2 2).bind fun t127 => (if t127 = true then (if t107 = 0 then (if t108 = 0 then (some (t109 == a1_2)) else (some false)) else (some false)) else (some false))) else (some false))) else (some false))) else (some false))) else (some false))) else (some false)) else (some false)) else (some false)))) else ((tiklaw6_first.f k).bind fun t113 => (if t113 = true then ((cell_May.f k a0 a1_0 a1_1 a1_2 0).bind fun t114 => (if t114 = true then (some false) else ((cell_May.f k a0 a1_0 a1_1 a1_2 1).bind fun t115 => (if t115 = true then (some false) else ((cell_May.f k 0 a1_0 a1_1 a1_2 2).bind fun t116 => (some (!t116))))))) else (some false)))) = some r := H
  have A6 := Aside0.mk A60
  clear A60
  by_cases c7 : t112 = true
  ·exact absurd (A6.out.symm.trans hx_) (by rw [c7]; simp)
  ·replace c7 := Bool.eq_false_iff.mpr c7
   subst c7
   have H1 : ((tiklaw6_first.f k).bind fun t113 => (if t113 = true then ((cell_May.f k a0 a1_0 a1_1 a1_2 0).bind fun t114 => (if t114 = true then (some false) else ((cell_May.f k a0 a1_0 a1_1 a1_2 1).bind fun t115 => (if t115 = true then (some false) else ((cell_May.f k 0 a1_0 a1_1 a1_2 2).bind fun t116 => (some (!t116))))))) else (some false))) = some r := by rw [if_neg (show ¬ (false = true) by decide)] at H; exact H
   clear H
   have H := H1
   clear H1
   replace H := Option.bind_eq_some_iff.mp H
   obtain ⟨t113, A680, H⟩ := H
   replace H : (if t113 = true then ((cell_May.f k a0 a1_0 a1_1 a1_2 0).bind fun t114 => (if t114 = true then (some false) else ((cell_May.f k a0 a1_0 a1_1 a1_2 1).bind fun t115 => (if t115 = true then (some false) else ((cell_May.f k 0 a1_0 a1_1 a1_2 2).bind fun t116 => (some (!t116))))))) else (some false)) = some r := H
   have A68 := Aside0.mk A680
   clear A680
   by_cases c69 : t113 = true
   ·subst c69
    have H1 : ((cell_May.f k a0 a1_0 a1_1 a1_2 0).bind fun t114 => (if t114 = true then (some false) else ((cell_May.f k a0 a1_0 a1_1 a1_2 1).bind fun t115 => (if t115 = true then (some false) else ((cell_May.f k 0 a1_0 a1_1 a1_2 2).bind fun t116 => (some (!t116))))))) = some r := by rw [if_pos rfl] at H; exact H
    clear H
    have H := H1
    clear H1
    replace H := Option.bind_eq_some_iff.mp H
    obtain ⟨t114, A700, H⟩ := H
    replace H : (if t114 = true then (some false) else ((cell_May.f k a0 a1_0 a1_1 a1_2 1).bind fun t115 => (if t115 = true then (some false) else ((cell_May.f k 0 a1_0 a1_1 a1_2 2).bind fun t116 => (some (!t116)))))) = some r := H
    have A70 := Aside0.mk A700
    clear A700
    by_cases c71 : t114 = true
    ·subst c71
     have H1 : (some false) = some r := by rw [if_pos rfl] at H; exact H
     clear H
     have H := H1
     clear H1
     exact absurd ((Option.some.inj H).trans hr_.out) (by simp)
    ·replace c71 := Bool.eq_false_iff.mpr c71
     subst c71
     have H1 : ((cell_May.f k a0 a1_0 a1_1 a1_2 1).bind fun t115 => (if t115 = true then (some false) else ((cell_May.f k 0 a1_0 a1_1 a1_2 2).bind fun t116 => (some (!t116))))) = some r := by rw [if_neg (show ¬ (false = true) by decide)] at H; exact H
     clear H
     have H := H1
     clear H1
     replace H := Option.bind_eq_some_iff.mp H
     obtain ⟨t115, A720, H⟩ := H
     replace H : (if t115 = true then (some false) else ((cell_May.f k 0 a1_0 a1_1 a1_2 2).bind fun t116 => (some (!t116)))) = some r := H
     have A72 := Aside0.mk A720
     clear A720
     by_cases c73 : t115 = true
     ·subst c73
      have H1 : (some false) = some r := by rw [if_pos rfl] at H; exact H
      clear H
      have H := H1
      clear H1
      exact absurd ((Option.some.inj H).trans hr_.out) (by simp)
     ·replace c73 := Bool.eq_false_iff.mpr c73
      subst c73
      have H1 : ((cell_May.f k 0 a1_0 a1_1 a1_2 2).bind fun t116 => (some (!t116))) = some r := by rw [if_neg (show ¬ (false = true) by decide)] at H; exact H
      clear H
      have H := H1
      clear H1
      replace H := Option.bind_eq_some_iff.mp H
      obtain ⟨t116, A740, H⟩ := H
      replace H : (some (!t116)) = some r := H
      have A74 := Aside0.mk A740
      clear A740
      obtain rfl := Option.some.inj H
      go_enter Tryd.func4, Tryd.ntmps4
      try go_wp2_with (first | ((with_reducible refine gate_dst (N := 3) rfl ?_); refine box_event ?hg (N := 3) ?hd (cs := #[.int .i64 a1_0, .int .i64 a1_1, .int .i64 a1_2]) (t := 23) ?hr ?_; (case hd => rfl); (case hg => rfl); (case hr => first | (go_simp; done) | (go_simp; rfl)); intro gb101 hg w75 hbox hb; have n0_ := Aside0.mk (below_step (by repeat (first | (with_reducible first | exact HB.out | apply below_alloc | apply pw_below_drewN | apply below_drew1) | exact HB.out)) hb); have n1_ := Aside0.mk (hbox); have n2_ := Aside0.mk ((by rw [hg]; exact (below_size (by repeat (first | (with_reducible first | exact HB.out | apply below_alloc | apply pw_below_drewN | apply below_drew1) | exact HB.out))) : w.heap.size ≤ gb101)); have n3_ := Aside0.mk ((by rw [hg]; exact (below_size (by repeat (first | (with_reducible first | exact HB.out | apply below_alloc | apply pw_below_drewN | apply below_drew1) | exact HB.out))) : w.heap.size ≤ gb101)); clear HB; have HB := n0_; have BK101 := n1_; have GW101 := n2_; have GE101 := n3_; clear n0_ n1_ n2_ n3_; clear hb hbox hg) | ((with_reducible refine gate_callee (f := 6) rfl ?_); refine goesL_ (some 10) rfl rfl Tryd.func6 (by kernel_rfl) rfl #[] rfl (by (try simp only [List.map_toArray, List.map_cons, List.map_nil]); first | done | rfl | (simp only [List.length_drop, List.length_take]; rfl)) ?_; (with_reducible refine (tiklaw6_first.calls k  true _ ?side1 A3.out).mono ?_); (case side1 => first | (with_reducible exact HT.out) | exact tabAt HT.out (by repeat (first | (with_reducible first | exact HB.out | apply below_alloc | apply pw_below_drewN | apply below_drew1 | refine below_set ?_ GE101.out) | exact HB.out))); rintro e w76 ⟨rfl, hb⟩; refine ⟨_, rfl, ?_⟩; have n0_ := Aside0.mk (blk_below (g := gb101) (o := .cells #[.int .i64 a1_0, .int .i64 a1_1, .int .i64 a1_2] 23 (0, 0)) (by (with_reducible repeat (first | refine blk_drewN ?_ _ | refine blk_drew ?_ | refine blk_alloc ?_ _)); exact BK101.out) hb); have n1_ := Aside0.mk (below_step (by repeat (first | (with_reducible first | exact HB.out | apply below_alloc | apply pw_below_drewN | apply below_drew1 | refine below_set ?_ GE101.out) | exact HB.out)) hb); clear BK101; clear HB; have BK101 := n0_; have HB := n1_; clear n0_ n1_; (try clear hb); (try clear hb2); (try clear hk); (try clear hi)))
      have n0_ := Aside0.mk (blk_drew BK101.out)
      have n1_ := Aside0.mk (below_drew1 HB.out)
      clear BK101
      clear HB
      have BK101 := n0_
      have HB := n1_
      clear n0_ n1_
      refine start_ (n := 14) (S := fun w' => w'.cell? ⟨gb101, 0, none⟩ = some (.int .i64 a1_0) ∧ w'.cell? ⟨gb101, 1, none⟩ = some (.int .i64 a1_1) ∧ w'.cell? ⟨gb101, 2, none⟩ = some (.int .i64 a1_2)) (ds := []) #[false, false, false, false, false, false, false, false, false, false, false, false, false, false] (by kernel_rfl) rfl rfl ⟨(blk_cell BK101.out 0).trans rfl, (blk_cell BK101.out 1).trans rfl, (blk_cell BK101.out 2).trans rfl⟩ (fun hHeld => ?_); refine with_tabW tiklaw6_CellMay.tab3 tiklaw6_CellMay.bits3 (fun HT_ HW_ => ?_)
      generalize w76.drew = w77 at BK101 HB hHeld ⊢
      refine pure_ (i := 0) (N := some 12) (v := ?_) (a' := ?_) #[true, false, false, false, false, false, false, false, false, false, false, false, false, false] rfl rfl (any_of HT_.out (by kernel_rfl)) (fun _ _ _ h => h) (Or.inl ⟨by rfl, ?_⟩) ?_ ?_
      rotate_left
      ·intro w'
       go_simp
       with_reducible rfl
      rotate_left
      ·simp only [Act.put, List.setIfInBounds_toArray, List.set_cons_zero, List.set_cons_succ, i64_w, i32_w]
       rfl
      refine pure_ (i := 3) (N := some 15) (v := ?_) (a' := ?_) #[true, false, false, true, false, false, false, false, false, false, false, false, false, false] rfl rfl (any_of HT_.out (by kernel_rfl)) (fun _ _ _ h => h) (Or.inl ⟨by rfl, ?_⟩) ?_ ?_
      rotate_left
      ·intro w'
       go_simp
       with_reducible rfl
      rotate_left
      ·simp only [Act.put, List.setIfInBounds_toArray, List.set_cons_zero, List.set_cons_succ, i64_w, i32_w]
       rfl
      refine take_ (i := 1) (N := some 13) (v := ?_) (a' := ?_) #[true, true, false, true, false, false, false, false, false, false, false, false, false, false] rfl rfl (take_ofW HT_.out HW_.out (by kernel_rfl)) (fun _ _ _ h => h) (Or.inl ⟨by rfl, ?_⟩) hHeld ?_ ?_
      rotate_left
      ·rintro w' ⟨s0, s1, s2⟩
       go_simp
       with_reducible rfl
      rotate_left
      ·simp only [Act.put, List.setIfInBounds_toArray, List.set_cons_zero, List.set_cons_succ, i64_w, i32_w]
       rfl
      refine pure_ (i := 2) (N := some 14) (v := ?_) (a' := ?_) #[true, true, true, true, false, false, false, false, false, false, false, false, false, false] rfl rfl (any_of HT_.out (by kernel_rfl)) (fun _ _ _ h => h) (Or.inl ⟨by rfl, ?_⟩) ?_ ?_
      rotate_left
      ·intro w'
       go_simp
       with_reducible rfl
      rotate_left
      ·simp only [Act.put, List.setIfInBounds_toArray, List.set_cons_zero, List.set_cons_succ, i64_w, i32_w]
       rfl
      refine take_ (i := 4) (N := some 16) (v := ?_) (a' := ?_) #[true, true, true, true, true, false, false, false, false, false, false, false, false, false] rfl rfl (take_ofW HT_.out HW_.out (by kernel_rfl)) (fun _ _ _ h => h) (Or.inl ⟨by rfl, ?_⟩) hHeld ?_ ?_
      rotate_left
      ·rintro w' ⟨s0, s1, s2⟩
       go_simp
       with_reducible rfl
      rotate_left
      ·simp only [Act.put, List.setIfInBounds_toArray, List.set_cons_zero, List.set_cons_succ, i64_w, i32_w]
       rfl
      refine pure_ (i := 5) (N := some 17) (v := ?_) (a' := ?_) #[true, true, true, true, true, true, false, false, false, false, false, false, false, false] rfl rfl (any_of HT_.out (by kernel_rfl)) (fun _ _ _ h => h) (Or.inl ⟨by rfl, ?_⟩) ?_ ?_
      rotate_left
      ·intro w'
       go_simp
       with_reducible rfl
      rotate_left
      ·simp only [Act.put, List.setIfInBounds_toArray, List.set_cons_zero, List.set_cons_succ, i64_w, i32_w]
       rfl
      refine take_ (i := 6) (N := some 18) (v := ?_) (a' := ?_) #[true, true, true, true, true, true, true, false, false, false, false, false, false, false] rfl rfl (take_ofW HT_.out HW_.out (by kernel_rfl)) (fun _ _ _ h => h) (Or.inl ⟨by rfl, ?_⟩) hHeld ?_ ?_
      rotate_left
      ·rintro w' ⟨s0, s1, s2⟩
       go_simp
       with_reducible rfl
      rotate_left
      ·simp only [Act.put, List.setIfInBounds_toArray, List.set_cons_zero, List.set_cons_succ, i64_w, i32_w]
       rfl
      refine pure_ (i := 7) (N := some 19) (v := ?_) (a' := ?_) #[true, true, true, true, true, true, true, true, false, false, false, false, false, false] rfl rfl (any_of HT_.out (by kernel_rfl)) (fun _ _ _ h => h) (Or.inl ⟨by rfl, ?_⟩) ?_ ?_
      rotate_left
      ·intro w'
       go_simp
       with_reducible rfl
      rotate_left
      ·simp only [Act.put, List.setIfInBounds_toArray, List.set_cons_zero, List.set_cons_succ, i64_w, i32_w]
       rfl
      refine join_ (σ := Nat × Nat × Nat) 3 #[true, true, true, true, true, true, true, true, true, true, true, false, false, false] (fun s_ => [(5, .pointer (some ⟨s_.1, 0, none⟩)), (6, .pointer (some ⟨s_.2.1, 0, none⟩)), (7, .pointer (some ⟨s_.2.2, 0, none⟩))]) (fun s_ w' => (w'.cell? ⟨gb101, 0, none⟩ = some (.int .i64 a1_0) ∧ w'.cell? ⟨gb101, 1, none⟩ = some (.int .i64 a1_1) ∧ w'.cell? ⟨gb101, 2, none⟩ = some (.int .i64 a1_2)) ∧ (w'.heap[gb101]? = some (.cells #[.int .i64 a1_0, .int .i64 a1_1, .int .i64 a1_2] 23 (0, 0))) ∧ (w'.heap[s_.1]? = some (.cells #[.int .i32 0, .int .i64 0, .int .i64 0, .int .i64 0, .int .i64 0] 25 (0, 0))) ∧ (w'.heap[s_.2.1]? = some (.cells #[.int .i32 0, .int .i64 0, .int .i64 0, .int .i64 0, .int .i64 0] 25 (0, 0))) ∧ (w'.heap[s_.2.2]? = some (.cells #[.int .i32 0, .int .i64 0, .int .i64 0, .int .i64 0, .int .i64 0] 25 (0, 0))) ∧ (w.heap.size ≤ s_.1) ∧ (w.heap.size ≤ s_.1) ∧ (gb101 ≠ s_.1) ∧ (s_.1 ≠ gb101) ∧ (s_.2.1 ≠ s_.1) ∧ (s_.1 ≠ s_.2.1) ∧ (s_.2.2 ≠ s_.1) ∧ (s_.1 ≠ s_.2.2) ∧ (w.heap.size ≤ s_.2.1) ∧ (w.heap.size ≤ s_.2.1) ∧ (gb101 ≠ s_.2.1) ∧ (s_.2.1 ≠ gb101) ∧ (s_.2.2 ≠ s_.2.1) ∧ (s_.2.1 ≠ s_.2.2) ∧ (w.heap.size ≤ s_.2.2) ∧ (w.heap.size ≤ s_.2.2) ∧ (gb101 ≠ s_.2.2) ∧ (s_.2.2 ≠ gb101) ∧ (Below w.heap.size w w')) ?_ ?_
      rotate_left
      ·intro hJ8_9_10
       refine join_ (σ := Nat × Nat) 4 #[true, true, true, true, true, true, true, true, true, true, false, false, false, false] (fun s_ => [(5, .pointer (some ⟨s_.1, 0, none⟩)), (6, .pointer (some ⟨s_.2, 0, none⟩))]) (fun s_ w' => (w'.cell? ⟨gb101, 0, none⟩ = some (.int .i64 a1_0) ∧ w'.cell? ⟨gb101, 1, none⟩ = some (.int .i64 a1_1) ∧ w'.cell? ⟨gb101, 2, none⟩ = some (.int .i64 a1_2)) ∧ (w'.heap[gb101]? = some (.cells #[.int .i64 a1_0, .int .i64 a1_1, .int .i64 a1_2] 23 (0, 0))) ∧ (w'.heap[s_.1]? = some (.cells #[.int .i32 0, .int .i64 0, .int .i64 0, .int .i64 0, .int .i64 0] 25 (0, 0))) ∧ (w'.heap[s_.2]? = some (.cells #[.int .i32 0, .int .i64 0, .int .i64 0, .int .i64 0, .int .i64 0] 25 (0, 0))) ∧ (w.heap.size ≤ s_.1) ∧ (w.heap.size ≤ s_.1) ∧ (gb101 ≠ s_.1) ∧ (s_.1 ≠ gb101) ∧ (s_.2 ≠ s_.1) ∧ (s_.1 ≠ s_.2) ∧ (w.heap.size ≤ s_.2) ∧ (w.heap.size ≤ s_.2) ∧ (gb101 ≠ s_.2) ∧ (s_.2 ≠ gb101) ∧ (Below w.heap.size w w')) ?_ ?_
       rotate_left
       ·intro hJ8_9
        refine join_ (σ := Nat × Nat) 4 #[true, true, true, true, true, true, true, true, true, false, true, false, false, false] (fun s_ => [(5, .pointer (some ⟨s_.1, 0, none⟩)), (7, .pointer (some ⟨s_.2, 0, none⟩))]) (fun s_ w' => (w'.cell? ⟨gb101, 0, none⟩ = some (.int .i64 a1_0) ∧ w'.cell? ⟨gb101, 1, none⟩ = some (.int .i64 a1_1) ∧ w'.cell? ⟨gb101, 2, none⟩ = some (.int .i64 a1_2)) ∧ (w'.heap[gb101]? = some (.cells #[.int .i64 a1_0, .int .i64 a1_1, .int .i64 a1_2] 23 (0, 0))) ∧ (w'.heap[s_.1]? = some (.cells #[.int .i32 0, .int .i64 0, .int .i64 0, .int .i64 0, .int .i64 0] 25 (0, 0))) ∧ (w'.heap[s_.2]? = some (.cells #[.int .i32 0, .int .i64 0, .int .i64 0, .int .i64 0, .int .i64 0] 25 (0, 0))) ∧ (w.heap.size ≤ s_.1) ∧ (w.heap.size ≤ s_.1) ∧ (gb101 ≠ s_.1) ∧ (s_.1 ≠ gb101) ∧ (s_.2 ≠ s_.1) ∧ (s_.1 ≠ s_.2) ∧ (w.heap.size ≤ s_.2) ∧ (w.heap.size ≤ s_.2) ∧ (gb101 ≠ s_.2) ∧ (s_.2 ≠ gb101) ∧ (Below w.heap.size w w')) ?_ ?_
        rotate_left
        ·intro hJ8_10
         refine join_ (σ := Nat × Nat) 4 #[true, true, true, true, true, true, true, true, false, true, true, false, false, false] (fun s_ => [(6, .pointer (some ⟨s_.1, 0, none⟩)), (7, .pointer (some ⟨s_.2, 0, none⟩))]) (fun s_ w' => (w'.cell? ⟨gb101, 0, none⟩ = some (.int .i64 a1_0) ∧ w'.cell? ⟨gb101, 1, none⟩ = some (.int .i64 a1_1) ∧ w'.cell? ⟨gb101, 2, none⟩ = some (.int .i64 a1_2)) ∧ (w'.heap[gb101]? = some (.cells #[.int .i64 a1_0, .int .i64 a1_1, .int .i64 a1_2] 23 (0, 0))) ∧ (w'.heap[s_.1]? = some (.cells #[.int .i32 0, .int .i64 0, .int .i64 0, .int .i64 0, .int .i64 0] 25 (0, 0))) ∧ (w'.heap[s_.2]? = some (.cells #[.int .i32 0, .int .i64 0, .int .i64 0, .int .i64 0, .int .i64 0] 25 (0, 0))) ∧ (w.heap.size ≤ s_.1) ∧ (w.heap.size ≤ s_.1) ∧ (gb101 ≠ s_.1) ∧ (s_.1 ≠ gb101) ∧ (s_.2 ≠ s_.1) ∧ (s_.1 ≠ s_.2) ∧ (w.heap.size ≤ s_.2) ∧ (w.heap.size ≤ s_.2) ∧ (gb101 ≠ s_.2) ∧ (s_.2 ≠ gb101) ∧ (Below w.heap.size w w')) ?_ ?_
         rotate_left
         ·intro hJ9_10
          refine join_ (σ := Nat) 5 #[true, true, true, true, true, true, true, true, true, false, false, false, false, false] (fun s_ => [(5, .pointer (some ⟨s_, 0, none⟩))]) (fun s_ w' => (w'.cell? ⟨gb101, 0, none⟩ = some (.int .i64 a1_0) ∧ w'.cell? ⟨gb101, 1, none⟩ = some (.int .i64 a1_1) ∧ w'.cell? ⟨gb101, 2, none⟩ = some (.int .i64 a1_2)) ∧ (w'.heap[gb101]? = some (.cells #[.int .i64 a1_0, .int .i64 a1_1, .int .i64 a1_2] 23 (0, 0))) ∧ (w'.heap[s_]? = some (.cells #[.int .i32 0, .int .i64 0, .int .i64 0, .int .i64 0, .int .i64 0] 25 (0, 0))) ∧ (w.heap.size ≤ s_) ∧ (w.heap.size ≤ s_) ∧ (gb101 ≠ s_) ∧ (s_ ≠ gb101) ∧ (Below w.heap.size w w')) ?_ ?_
          rotate_left
          ·intro hJ8
           refine join_ (σ := Nat) 5 #[true, true, true, true, true, true, true, true, false, true, false, false, false, false] (fun s_ => [(6, .pointer (some ⟨s_, 0, none⟩))]) (fun s_ w' => (w'.cell? ⟨gb101, 0, none⟩ = some (.int .i64 a1_0) ∧ w'.cell? ⟨gb101, 1, none⟩ = some (.int .i64 a1_1) ∧ w'.cell? ⟨gb101, 2, none⟩ = some (.int .i64 a1_2)) ∧ (w'.heap[gb101]? = some (.cells #[.int .i64 a1_0, .int .i64 a1_1, .int .i64 a1_2] 23 (0, 0))) ∧ (w'.heap[s_]? = some (.cells #[.int .i32 0, .int .i64 0, .int .i64 0, .int .i64 0, .int .i64 0] 25 (0, 0))) ∧ (w.heap.size ≤ s_) ∧ (w.heap.size ≤ s_) ∧ (gb101 ≠ s_) ∧ (s_ ≠ gb101) ∧ (Below w.heap.size w w')) ?_ ?_
           rotate_left
           ·intro hJ9
            refine join_ (σ := Nat) 5 #[true, true, true, true, true, true, true, true, false, false, true, false, false, false] (fun s_ => [(7, .pointer (some ⟨s_, 0, none⟩))]) (fun s_ w' => (w'.cell? ⟨gb101, 0, none⟩ = some (.int .i64 a1_0) ∧ w'.cell? ⟨gb101, 1, none⟩ = some (.int .i64 a1_1) ∧ w'.cell? ⟨gb101, 2, none⟩ = some (.int .i64 a1_2)) ∧ (w'.heap[gb101]? = some (.cells #[.int .i64 a1_0, .int .i64 a1_1, .int .i64 a1_2] 23 (0, 0))) ∧ (w'.heap[s_]? = some (.cells #[.int .i32 0, .int .i64 0, .int .i64 0, .int .i64 0, .int .i64 0] 25 (0, 0))) ∧ (w.heap.size ≤ s_) ∧ (w.heap.size ≤ s_) ∧ (gb101 ≠ s_) ∧ (s_ ≠ gb101) ∧ (Below w.heap.size w w')) ?_ ?_
            rotate_left
            ·intro hJ10
             refine three_ (i := 8) (j := 9) (k := 10) (Ni := some 5) (Nj := some 6) (Nk := some 7) #[true, true, true, true, true, true, true, true, true, false, false, false, false, false] #[true, true, true, true, true, true, true, true, false, true, false, false, false, false] #[true, true, true, true, true, true, true, true, false, false, true, false, false, false] rfl rfl rfl rfl rfl rfl (three_of HT_.out (by kernel_rfl)) (by decide) (by decide) (by decide) (fun K hK => ?_) (fun K hK => ?_) (fun K hK => ?_)
             ·skip
              refine box_step ?hg (N := 5) ?hd (cs := #[.int .i32 0, .int .i64 0, .int .i64 0, .int .i64 0, .int .i64 0]) (t := 25) ?hr ?_; (case hd => rfl); (case hg => rfl); (case hr => first | (go_simp; done) | (go_simp; rfl))
              intro gb103 hg w78 hbox hb
              have n0_ := Aside0.mk (blk_below (g := gb101) (o := .cells #[.int .i64 a1_0, .int .i64 a1_1, .int .i64 a1_2] 23 (0, 0)) (by (with_reducible repeat (first | refine blk_drewN ?_ _ | refine blk_drew ?_ | refine blk_alloc ?_ _)); exact BK101.out) hb)
              have n1_ := Aside0.mk (below_step (by repeat (first | (with_reducible first | exact HB.out | apply below_alloc | apply pw_below_drewN | apply below_drew1 | refine below_set ?_ GE101.out) | exact HB.out)) hb)
              have n2_ := Aside0.mk (hbox)
              have n3_ := Aside0.mk ((by rw [hg]; exact (below_size (by repeat (first | (with_reducible first | exact HB.out | apply below_alloc | apply pw_below_drewN | apply below_drew1 | refine below_set ?_ GE101.out) | exact HB.out))) : w.heap.size ≤ gb103))
              have n4_ := Aside0.mk ((by rw [hg]; exact (below_size (by repeat (first | (with_reducible first | exact HB.out | apply below_alloc | apply pw_below_drewN | apply below_drew1 | refine below_set ?_ GE101.out) | exact HB.out))) : w.heap.size ≤ gb103))
              have n5_ := Aside0.mk ((by rw [hg]; exact Nat.ne_of_lt (blk_lt (g := gb101) (o := .cells #[.int .i64 a1_0, .int .i64 a1_1, .int .i64 a1_2] 23 (0, 0)) (by (with_reducible repeat (first | refine blk_drewN ?_ _ | refine blk_drew ?_ | refine blk_alloc ?_ _)); exact BK101.out)) : gb101 ≠ gb103))
              have n6_ := Aside0.mk ((by rw [hg]; exact Nat.ne_of_gt (blk_lt (g := gb101) (o := .cells #[.int .i64 a1_0, .int .i64 a1_1, .int .i64 a1_2] 23 (0, 0)) (by (with_reducible repeat (first | refine blk_drewN ?_ _ | refine blk_drew ?_ | refine blk_alloc ?_ _)); exact BK101.out)) : gb103 ≠ gb101))
              clear BK101
              clear HB
              have BK101 := n0_
              have HB := n1_
              have BK103 := n2_
              have GW103 := n3_
              have GE103 := n4_
              have NB101_103 := n5_
              have NB103_101 := n6_
              clear n0_ n1_ n2_ n3_ n4_ n5_ n6_
              clear hb hbox hg
              refine hK.out _ _ ⟨(blk_cell BK101.out 0).trans rfl, (blk_cell BK101.out 1).trans rfl, (blk_cell BK101.out 2).trans rfl⟩ (fun hHeld => ?_)
              clear hK K
              refine norm_ (a' := ?_) ?_ ?_
              rotate_left
              ·show Act.put _ (some 5) _ = _
               simp only [Act.put, List.setIfInBounds_toArray, List.set_cons_zero, List.set_cons_succ, i64_w, i32_w]
               rfl
              exact norm_ (by first | (simp only [putAll, Act.put, List.setIfInBounds_toArray, List.set_cons_zero, List.set_cons_succ]; done) | (simp only [putAll, Act.put, List.setIfInBounds_toArray, List.set_cons_zero, List.set_cons_succ]; rfl)) (hJ8 (gb103) _ ⟨hHeld, (by (with_reducible repeat (first | refine blk_drewN ?_ _ | refine blk_drew ?_ | refine blk_alloc ?_ _)); exact BK101.out), (by (with_reducible repeat (first | refine blk_drewN ?_ _ | refine blk_drew ?_ | refine blk_alloc ?_ _)); exact BK103.out), GW103.out, GE103.out, NB101_103.out, NB103_101.out, (by repeat (first | (with_reducible first | exact HB.out | apply below_alloc | apply pw_below_drewN | apply below_drew1 | refine below_set ?_ GE101.out | refine below_set ?_ GE103.out) | exact HB.out))⟩)
             ·skip
              refine box_step ?hg (N := 6) ?hd (cs := #[.int .i32 0, .int .i64 0, .int .i64 0, .int .i64 0, .int .i64 0]) (t := 25) ?hr ?_; (case hd => rfl); (case hg => rfl); (case hr => first | (go_simp; done) | (go_simp; rfl))
              intro gb104 hg w78 hbox hb
              have n0_ := Aside0.mk (blk_below (g := gb101) (o := .cells #[.int .i64 a1_0, .int .i64 a1_1, .int .i64 a1_2] 23 (0, 0)) (by (with_reducible repeat (first | refine blk_drewN ?_ _ | refine blk_drew ?_ | refine blk_alloc ?_ _)); exact BK101.out) hb)
              have n1_ := Aside0.mk (below_step (by repeat (first | (with_reducible first | exact HB.out | apply below_alloc | apply pw_below_drewN | apply below_drew1 | refine below_set ?_ GE101.out) | exact HB.out)) hb)
              have n2_ := Aside0.mk (hbox)
              have n3_ := Aside0.mk ((by rw [hg]; exact (below_size (by repeat (first | (with_reducible first | exact HB.out | apply below_alloc | apply pw_below_drewN | apply below_drew1 | refine below_set ?_ GE101.out) | exact HB.out))) : w.heap.size ≤ gb104))
              have n4_ := Aside0.mk ((by rw [hg]; exact (below_size (by repeat (first | (with_reducible first | exact HB.out | apply below_alloc | apply pw_below_drewN | apply below_drew1 | refine below_set ?_ GE101.out) | exact HB.out))) : w.heap.size ≤ gb104))
              have n5_ := Aside0.mk ((by rw [hg]; exact Nat.ne_of_lt (blk_lt (g := gb101) (o := .cells #[.int .i64 a1_0, .int .i64 a1_1, .int .i64 a1_2] 23 (0, 0)) (by (with_reducible repeat (first | refine blk_drewN ?_ _ | refine blk_drew ?_ | refine blk_alloc ?_ _)); exact BK101.out)) : gb101 ≠ gb104))
              have n6_ := Aside0.mk ((by rw [hg]; exact Nat.ne_of_gt (blk_lt (g := gb101) (o := .cells #[.int .i64 a1_0, .int .i64 a1_1, .int .i64 a1_2] 23 (0, 0)) (by (with_reducible repeat (first | refine blk_drewN ?_ _ | refine blk_drew ?_ | refine blk_alloc ?_ _)); exact BK101.out)) : gb104 ≠ gb101))
              clear BK101
              clear HB
              have BK101 := n0_
              have HB := n1_
              have BK104 := n2_
              have GW104 := n3_
              have GE104 := n4_
              have NB101_104 := n5_
              have NB104_101 := n6_
              clear n0_ n1_ n2_ n3_ n4_ n5_ n6_
              clear hb hbox hg
              refine hK.out _ _ ⟨(blk_cell BK101.out 0).trans rfl, (blk_cell BK101.out 1).trans rfl, (blk_cell BK101.out 2).trans rfl⟩ (fun hHeld => ?_)
              clear hK K
              refine norm_ (a' := ?_) ?_ ?_
              rotate_left
              ·show Act.put _ (some 6) _ = _
               simp only [Act.put, List.setIfInBounds_toArray, List.set_cons_zero, List.set_cons_succ, i64_w, i32_w]
               rfl
              exact norm_ (by first | (simp only [putAll, Act.put, List.setIfInBounds_toArray, List.set_cons_zero, List.set_cons_succ]; done) | (simp only [putAll, Act.put, List.setIfInBounds_toArray, List.set_cons_zero, List.set_cons_succ]; rfl)) (hJ9 (gb104) _ ⟨hHeld, (by (with_reducible repeat (first | refine blk_drewN ?_ _ | refine blk_drew ?_ | refine blk_alloc ?_ _)); exact BK101.out), (by (with_reducible repeat (first | refine blk_drewN ?_ _ | refine blk_drew ?_ | refine blk_alloc ?_ _)); exact BK104.out), GW104.out, GE104.out, NB101_104.out, NB104_101.out, (by repeat (first | (with_reducible first | exact HB.out | apply below_alloc | apply pw_below_drewN | apply below_drew1 | refine below_set ?_ GE101.out | refine below_set ?_ GE104.out) | exact HB.out))⟩)
             ·skip
              refine box_step ?hg (N := 7) ?hd (cs := #[.int .i32 0, .int .i64 0, .int .i64 0, .int .i64 0, .int .i64 0]) (t := 25) ?hr ?_; (case hd => rfl); (case hg => rfl); (case hr => first | (go_simp; done) | (go_simp; rfl))
              intro gb105 hg w78 hbox hb
              have n0_ := Aside0.mk (blk_below (g := gb101) (o := .cells #[.int .i64 a1_0, .int .i64 a1_1, .int .i64 a1_2] 23 (0, 0)) (by (with_reducible repeat (first | refine blk_drewN ?_ _ | refine blk_drew ?_ | refine blk_alloc ?_ _)); exact BK101.out) hb)
              have n1_ := Aside0.mk (below_step (by repeat (first | (with_reducible first | exact HB.out | apply below_alloc | apply pw_below_drewN | apply below_drew1 | refine below_set ?_ GE101.out) | exact HB.out)) hb)
              have n2_ := Aside0.mk (hbox)
              have n3_ := Aside0.mk ((by rw [hg]; exact (below_size (by repeat (first | (with_reducible first | exact HB.out | apply below_alloc | apply pw_below_drewN | apply below_drew1 | refine below_set ?_ GE101.out) | exact HB.out))) : w.heap.size ≤ gb105))
              have n4_ := Aside0.mk ((by rw [hg]; exact (below_size (by repeat (first | (with_reducible first | exact HB.out | apply below_alloc | apply pw_below_drewN | apply below_drew1 | refine below_set ?_ GE101.out) | exact HB.out))) : w.heap.size ≤ gb105))
              have n5_ := Aside0.mk ((by rw [hg]; exact Nat.ne_of_lt (blk_lt (g := gb101) (o := .cells #[.int .i64 a1_0, .int .i64 a1_1, .int .i64 a1_2] 23 (0, 0)) (by (with_reducible repeat (first | refine blk_drewN ?_ _ | refine blk_drew ?_ | refine blk_alloc ?_ _)); exact BK101.out)) : gb101 ≠ gb105))
              have n6_ := Aside0.mk ((by rw [hg]; exact Nat.ne_of_gt (blk_lt (g := gb101) (o := .cells #[.int .i64 a1_0, .int .i64 a1_1, .int .i64 a1_2] 23 (0, 0)) (by (with_reducible repeat (first | refine blk_drewN ?_ _ | refine blk_drew ?_ | refine blk_alloc ?_ _)); exact BK101.out)) : gb105 ≠ gb101))
              clear BK101
              clear HB
              have BK101 := n0_
              have HB := n1_
              have BK105 := n2_
              have GW105 := n3_
              have GE105 := n4_
              have NB101_105 := n5_
              have NB105_101 := n6_
              clear n0_ n1_ n2_ n3_ n4_ n5_ n6_
              clear hb hbox hg
              refine hK.out _ _ ⟨(blk_cell BK101.out 0).trans rfl, (blk_cell BK101.out 1).trans rfl, (blk_cell BK101.out 2).trans rfl⟩ (fun hHeld => ?_)
              clear hK K
              refine norm_ (a' := ?_) ?_ ?_
              rotate_left
              ·show Act.put _ (some 7) _ = _
               simp only [Act.put, List.setIfInBounds_toArray, List.set_cons_zero, List.set_cons_succ, i64_w, i32_w]
               rfl
              exact norm_ (by first | (simp only [putAll, Act.put, List.setIfInBounds_toArray, List.set_cons_zero, List.set_cons_succ]; done) | (simp only [putAll, Act.put, List.setIfInBounds_toArray, List.set_cons_zero, List.set_cons_succ]; rfl)) (hJ10 (gb105) _ ⟨hHeld, (by (with_reducible repeat (first | refine blk_drewN ?_ _ | refine blk_drew ?_ | refine blk_alloc ?_ _)); exact BK101.out), (by (with_reducible repeat (first | refine blk_drewN ?_ _ | refine blk_drew ?_ | refine blk_alloc ?_ _)); exact BK105.out), GW105.out, GE105.out, NB101_105.out, NB105_101.out, (by repeat (first | (with_reducible first | exact HB.out | apply below_alloc | apply pw_below_drewN | apply below_drew1 | refine below_set ?_ GE101.out | refine below_set ?_ GE105.out) | exact HB.out))⟩)
            ·skip
             rintro gb105 w79 ⟨hS_, h0_, h1_, h2_, h3_, h4_, h5_, h6_⟩
             have n0_ : Aside0 (w79.heap[gb101]? = some (.cells #[.int .i64 a1_0, .int .i64 a1_1, .int .i64 a1_2] 23 (0, 0))) := ⟨h0_⟩
             have n1_ : Aside0 (w79.heap[gb105]? = some (.cells #[.int .i32 0, .int .i64 0, .int .i64 0, .int .i64 0, .int .i64 0] 25 (0, 0))) := ⟨h1_⟩
             have n2_ : Aside0 (w.heap.size ≤ gb105) := ⟨h2_⟩
             have n3_ : Aside0 (w.heap.size ≤ gb105) := ⟨h3_⟩
             have n4_ : Aside0 (gb101 ≠ gb105) := ⟨h4_⟩
             have n5_ : Aside0 (gb105 ≠ gb101) := ⟨h5_⟩
             have n6_ : Aside0 (Below w.heap.size w w79) := ⟨h6_⟩
             clear BK101
             clear HB
             clear h0_ h1_ h2_ h3_ h4_ h5_ h6_
             have BK101 := n0_
             have BK105 := n1_
             have GW105 := n2_
             have GE105 := n3_
             have NB101_105 := n4_
             have NB105_101 := n5_
             have HB := n6_
             clear n0_ n1_ n2_ n3_ n4_ n5_ n6_
             have hHeld : w79.cell? ⟨gb101, 0, none⟩ = some (.int .i64 a1_0) ∧ w79.cell? ⟨gb101, 1, none⟩ = some (.int .i64 a1_1) ∧ w79.cell? ⟨gb101, 2, none⟩ = some (.int .i64 a1_2) := hS_
             refine norm_ (a' := ?_) ?_ ?_
             rotate_left
             ·simp only [putAll, Act.put, List.setIfInBounds_toArray, List.set_cons_zero, List.set_cons_succ]
              rfl
             refine two_ (i := 8) (j := 9) (Ni := some 5) (Nj := some 6) #[true, true, true, true, true, true, true, true, true, false, true, false, false, false] #[true, true, true, true, true, true, true, true, false, true, true, false, false, false] rfl rfl rfl rfl (two_of HT_.out (by kernel_rfl)) (by decide) (by decide) (fun K hK => ?_) (fun K hK => ?_)
             ·skip
              refine box_step ?hg (N := 5) ?hd (cs := #[.int .i32 0, .int .i64 0, .int .i64 0, .int .i64 0, .int .i64 0]) (t := 25) ?hr ?_; (case hd => rfl); (case hg => rfl); (case hr => first | (go_simp; done) | (go_simp; rfl))
              intro gb103 hg w80 hbox hb
              have n0_ := Aside0.mk (blk_below (g := gb101) (o := .cells #[.int .i64 a1_0, .int .i64 a1_1, .int .i64 a1_2] 23 (0, 0)) (by (with_reducible repeat (first | refine blk_drewN ?_ _ | refine blk_drew ?_ | refine blk_alloc ?_ _)); exact BK101.out) hb)
              have n1_ := Aside0.mk (blk_below (g := gb105) (o := .cells #[.int .i32 0, .int .i64 0, .int .i64 0, .int .i64 0, .int .i64 0] 25 (0, 0)) (by (with_reducible repeat (first | refine blk_drewN ?_ _ | refine blk_drew ?_ | refine blk_alloc ?_ _)); exact BK105.out) hb)
              have n2_ := Aside0.mk (below_step (by repeat (first | (with_reducible first | exact HB.out | apply below_alloc | apply pw_below_drewN | apply below_drew1 | refine below_set ?_ GE101.out | refine below_set ?_ GE105.out) | exact HB.out)) hb)
              have n3_ := Aside0.mk (hbox)
              have n4_ := Aside0.mk ((by rw [hg]; exact (below_size (by repeat (first | (with_reducible first | exact HB.out | apply below_alloc | apply pw_below_drewN | apply below_drew1 | refine below_set ?_ GE101.out | refine below_set ?_ GE105.out) | exact HB.out))) : w.heap.size ≤ gb103))
              have n5_ := Aside0.mk ((by rw [hg]; exact (below_size (by repeat (first | (with_reducible first | exact HB.out | apply below_alloc | apply pw_below_drewN | apply below_drew1 | refine below_set ?_ GE101.out | refine below_set ?_ GE105.out) | exact HB.out))) : w.heap.size ≤ gb103))
              have n6_ := Aside0.mk ((by rw [hg]; exact Nat.ne_of_lt (blk_lt (g := gb101) (o := .cells #[.int .i64 a1_0, .int .i64 a1_1, .int .i64 a1_2] 23 (0, 0)) (by (with_reducible repeat (first | refine blk_drewN ?_ _ | refine blk_drew ?_ | refine blk_alloc ?_ _)); exact BK101.out)) : gb101 ≠ gb103))
              have n7_ := Aside0.mk ((by rw [hg]; exact Nat.ne_of_gt (blk_lt (g := gb101) (o := .cells #[.int .i64 a1_0, .int .i64 a1_1, .int .i64 a1_2] 23 (0, 0)) (by (with_reducible repeat (first | refine blk_drewN ?_ _ | refine blk_drew ?_ | refine blk_alloc ?_ _)); exact BK101.out)) : gb103 ≠ gb101))
              have n8_ := Aside0.mk ((by rw [hg]; exact Nat.ne_of_lt (blk_lt (g := gb105) (o := .cells #[.int .i32 0, .int .i64 0, .int .i64 0, .int .i64 0, .int .i64 0] 25 (0, 0)) (by (with_reducible repeat (first | refine blk_drewN ?_ _ | refine blk_drew ?_ | refine blk_alloc ?_ _)); exact BK105.out)) : gb105 ≠ gb103))
              have n9_ := Aside0.mk ((by rw [hg]; exact Nat.ne_of_gt (blk_lt (g := gb105) (o := .cells #[.int .i32 0, .int .i64 0, .int .i64 0, .int .i64 0, .int .i64 0] 25 (0, 0)) (by (with_reducible repeat (first | refine blk_drewN ?_ _ | refine blk_drew ?_ | refine blk_alloc ?_ _)); exact BK105.out)) : gb103 ≠ gb105))
              clear BK101
              clear BK105
              clear HB
              have BK101 := n0_
              have BK105 := n1_
              have HB := n2_
              have BK103 := n3_
              have GW103 := n4_
              have GE103 := n5_
              have NB101_103 := n6_
              have NB103_101 := n7_
              have NB105_103 := n8_
              have NB103_105 := n9_
              clear n0_ n1_ n2_ n3_ n4_ n5_ n6_ n7_ n8_ n9_
              clear hb hbox hg
              refine hK.out _ _ ⟨(blk_cell BK101.out 0).trans rfl, (blk_cell BK101.out 1).trans rfl, (blk_cell BK101.out 2).trans rfl⟩ (fun hHeld => ?_)
              clear hK K
              refine norm_ (a' := ?_) ?_ ?_
              rotate_left
              ·show Act.put _ (some 5) _ = _
               simp only [Act.put, List.setIfInBounds_toArray, List.set_cons_zero, List.set_cons_succ, i64_w, i32_w]
               rfl
              exact norm_ (by first | (simp only [putAll, Act.put, List.setIfInBounds_toArray, List.set_cons_zero, List.set_cons_succ]; done) | (simp only [putAll, Act.put, List.setIfInBounds_toArray, List.set_cons_zero, List.set_cons_succ]; rfl)) (hJ8_10 (gb103, gb105) _ ⟨hHeld, (by (with_reducible repeat (first | refine blk_drewN ?_ _ | refine blk_drew ?_ | refine blk_alloc ?_ _)); exact BK101.out), (by (with_reducible repeat (first | refine blk_drewN ?_ _ | refine blk_drew ?_ | refine blk_alloc ?_ _)); exact BK103.out), (by (with_reducible repeat (first | refine blk_drewN ?_ _ | refine blk_drew ?_ | refine blk_alloc ?_ _)); exact BK105.out), GW103.out, GE103.out, NB101_103.out, NB103_101.out, NB105_103.out, NB103_105.out, GW105.out, GE105.out, NB101_105.out, NB105_101.out, (by repeat (first | (with_reducible first | exact HB.out | apply below_alloc | apply pw_below_drewN | apply below_drew1 | refine below_set ?_ GE101.out | refine below_set ?_ GE105.out | refine below_set ?_ GE103.out) | exact HB.out))⟩)
             ·skip
              refine box_step ?hg (N := 6) ?hd (cs := #[.int .i32 0, .int .i64 0, .int .i64 0, .int .i64 0, .int .i64 0]) (t := 25) ?hr ?_; (case hd => rfl); (case hg => rfl); (case hr => first | (go_simp; done) | (go_simp; rfl))
              intro gb104 hg w80 hbox hb
              have n0_ := Aside0.mk (blk_below (g := gb101) (o := .cells #[.int .i64 a1_0, .int .i64 a1_1, .int .i64 a1_2] 23 (0, 0)) (by (with_reducible repeat (first | refine blk_drewN ?_ _ | refine blk_drew ?_ | refine blk_alloc ?_ _)); exact BK101.out) hb)
              have n1_ := Aside0.mk (blk_below (g := gb105) (o := .cells #[.int .i32 0, .int .i64 0, .int .i64 0, .int .i64 0, .int .i64 0] 25 (0, 0)) (by (with_reducible repeat (first | refine blk_drewN ?_ _ | refine blk_drew ?_ | refine blk_alloc ?_ _)); exact BK105.out) hb)
              have n2_ := Aside0.mk (below_step (by repeat (first | (with_reducible first | exact HB.out | apply below_alloc | apply pw_below_drewN | apply below_drew1 | refine below_set ?_ GE101.out | refine below_set ?_ GE105.out) | exact HB.out)) hb)
              have n3_ := Aside0.mk (hbox)
              have n4_ := Aside0.mk ((by rw [hg]; exact (below_size (by repeat (first | (with_reducible first | exact HB.out | apply below_alloc | apply pw_below_drewN | apply below_drew1 | refine below_set ?_ GE101.out | refine below_set ?_ GE105.out) | exact HB.out))) : w.heap.size ≤ gb104))
              have n5_ := Aside0.mk ((by rw [hg]; exact (below_size (by repeat (first | (with_reducible first | exact HB.out | apply below_alloc | apply pw_below_drewN | apply below_drew1 | refine below_set ?_ GE101.out | refine below_set ?_ GE105.out) | exact HB.out))) : w.heap.size ≤ gb104))
              have n6_ := Aside0.mk ((by rw [hg]; exact Nat.ne_of_lt (blk_lt (g := gb101) (o := .cells #[.int .i64 a1_0, .int .i64 a1_1, .int .i64 a1_2] 23 (0, 0)) (by (with_reducible repeat (first | refine blk_drewN ?_ _ | refine blk_drew ?_ | refine blk_alloc ?_ _)); exact BK101.out)) : gb101 ≠ gb104))
              have n7_ := Aside0.mk ((by rw [hg]; exact Nat.ne_of_gt (blk_lt (g := gb101) (o := .cells #[.int .i64 a1_0, .int .i64 a1_1, .int .i64 a1_2] 23 (0, 0)) (by (with_reducible repeat (first | refine blk_drewN ?_ _ | refine blk_drew ?_ | refine blk_alloc ?_ _)); exact BK101.out)) : gb104 ≠ gb101))
              have n8_ := Aside0.mk ((by rw [hg]; exact Nat.ne_of_lt (blk_lt (g := gb105) (o := .cells #[.int .i32 0, .int .i64 0, .int .i64 0, .int .i64 0, .int .i64 0] 25 (0, 0)) (by (with_reducible repeat (first | refine blk_drewN ?_ _ | refine blk_drew ?_ | refine blk_alloc ?_ _)); exact BK105.out)) : gb105 ≠ gb104))
              have n9_ := Aside0.mk ((by rw [hg]; exact Nat.ne_of_gt (blk_lt (g := gb105) (o := .cells #[.int .i32 0, .int .i64 0, .int .i64 0, .int .i64 0, .int .i64 0] 25 (0, 0)) (by (with_reducible repeat (first | refine blk_drewN ?_ _ | refine blk_drew ?_ | refine blk_alloc ?_ _)); exact BK105.out)) : gb104 ≠ gb105))
              clear BK101
              clear BK105
              clear HB
              have BK101 := n0_
              have BK105 := n1_
              have HB := n2_
              have BK104 := n3_
              have GW104 := n4_
              have GE104 := n5_
              have NB101_104 := n6_
              have NB104_101 := n7_
              have NB105_104 := n8_
              have NB104_105 := n9_
              clear n0_ n1_ n2_ n3_ n4_ n5_ n6_ n7_ n8_ n9_
              clear hb hbox hg
              refine hK.out _ _ ⟨(blk_cell BK101.out 0).trans rfl, (blk_cell BK101.out 1).trans rfl, (blk_cell BK101.out 2).trans rfl⟩ (fun hHeld => ?_)
              clear hK K
              refine norm_ (a' := ?_) ?_ ?_
              rotate_left
              ·show Act.put _ (some 6) _ = _
               simp only [Act.put, List.setIfInBounds_toArray, List.set_cons_zero, List.set_cons_succ, i64_w, i32_w]
               rfl
              exact norm_ (by first | (simp only [putAll, Act.put, List.setIfInBounds_toArray, List.set_cons_zero, List.set_cons_succ]; done) | (simp only [putAll, Act.put, List.setIfInBounds_toArray, List.set_cons_zero, List.set_cons_succ]; rfl)) (hJ9_10 (gb104, gb105) _ ⟨hHeld, (by (with_reducible repeat (first | refine blk_drewN ?_ _ | refine blk_drew ?_ | refine blk_alloc ?_ _)); exact BK101.out), (by (with_reducible repeat (first | refine blk_drewN ?_ _ | refine blk_drew ?_ | refine blk_alloc ?_ _)); exact BK104.out), (by (with_reducible repeat (first | refine blk_drewN ?_ _ | refine blk_drew ?_ | refine blk_alloc ?_ _)); exact BK105.out), GW104.out, GE104.out, NB101_104.out, NB104_101.out, NB105_104.out, NB104_105.out, GW105.out, GE105.out, NB101_105.out, NB105_101.out, (by repeat (first | (with_reducible first | exact HB.out | apply below_alloc | apply pw_below_drewN | apply below_drew1 | refine below_set ?_ GE101.out | refine below_set ?_ GE105.out | refine below_set ?_ GE104.out) | exact HB.out))⟩)
           ·skip
            rintro gb104 w79 ⟨hS_, h0_, h1_, h2_, h3_, h4_, h5_, h6_⟩
            have n0_ : Aside0 (w79.heap[gb101]? = some (.cells #[.int .i64 a1_0, .int .i64 a1_1, .int .i64 a1_2] 23 (0, 0))) := ⟨h0_⟩
            have n1_ : Aside0 (w79.heap[gb104]? = some (.cells #[.int .i32 0, .int .i64 0, .int .i64 0, .int .i64 0, .int .i64 0] 25 (0, 0))) := ⟨h1_⟩
            have n2_ : Aside0 (w.heap.size ≤ gb104) := ⟨h2_⟩
            have n3_ : Aside0 (w.heap.size ≤ gb104) := ⟨h3_⟩
            have n4_ : Aside0 (gb101 ≠ gb104) := ⟨h4_⟩
            have n5_ : Aside0 (gb104 ≠ gb101) := ⟨h5_⟩
            have n6_ : Aside0 (Below w.heap.size w w79) := ⟨h6_⟩
            clear BK101
            clear HB
            clear h0_ h1_ h2_ h3_ h4_ h5_ h6_
            have BK101 := n0_
            have BK104 := n1_
            have GW104 := n2_
            have GE104 := n3_
            have NB101_104 := n4_
            have NB104_101 := n5_
            have HB := n6_
            clear n0_ n1_ n2_ n3_ n4_ n5_ n6_
            have hHeld : w79.cell? ⟨gb101, 0, none⟩ = some (.int .i64 a1_0) ∧ w79.cell? ⟨gb101, 1, none⟩ = some (.int .i64 a1_1) ∧ w79.cell? ⟨gb101, 2, none⟩ = some (.int .i64 a1_2) := hS_
            refine norm_ (a' := ?_) ?_ ?_
            rotate_left
            ·simp only [putAll, Act.put, List.setIfInBounds_toArray, List.set_cons_zero, List.set_cons_succ]
             rfl
            refine two_ (i := 8) (j := 10) (Ni := some 5) (Nj := some 7) #[true, true, true, true, true, true, true, true, true, true, false, false, false, false] #[true, true, true, true, true, true, true, true, false, true, true, false, false, false] rfl rfl rfl rfl (two_of HT_.out (by kernel_rfl)) (by decide) (by decide) (fun K hK => ?_) (fun K hK => ?_)
            ·skip
             refine box_step ?hg (N := 5) ?hd (cs := #[.int .i32 0, .int .i64 0, .int .i64 0, .int .i64 0, .int .i64 0]) (t := 25) ?hr ?_; (case hd => rfl); (case hg => rfl); (case hr => first | (go_simp; done) | (go_simp; rfl))
             intro gb103 hg w80 hbox hb
             have n0_ := Aside0.mk (blk_below (g := gb101) (o := .cells #[.int .i64 a1_0, .int .i64 a1_1, .int .i64 a1_2] 23 (0, 0)) (by (with_reducible repeat (first | refine blk_drewN ?_ _ | refine blk_drew ?_ | refine blk_alloc ?_ _)); exact BK101.out) hb)
             have n1_ := Aside0.mk (blk_below (g := gb104) (o := .cells #[.int .i32 0, .int .i64 0, .int .i64 0, .int .i64 0, .int .i64 0] 25 (0, 0)) (by (with_reducible repeat (first | refine blk_drewN ?_ _ | refine blk_drew ?_ | refine blk_alloc ?_ _)); exact BK104.out) hb)
             have n2_ := Aside0.mk (below_step (by repeat (first | (with_reducible first | exact HB.out | apply below_alloc | apply pw_below_drewN | apply below_drew1 | refine below_set ?_ GE101.out | refine below_set ?_ GE104.out) | exact HB.out)) hb)
             have n3_ := Aside0.mk (hbox)
             have n4_ := Aside0.mk ((by rw [hg]; exact (below_size (by repeat (first | (with_reducible first | exact HB.out | apply below_alloc | apply pw_below_drewN | apply below_drew1 | refine below_set ?_ GE101.out | refine below_set ?_ GE104.out) | exact HB.out))) : w.heap.size ≤ gb103))
             have n5_ := Aside0.mk ((by rw [hg]; exact (below_size (by repeat (first | (with_reducible first | exact HB.out | apply below_alloc | apply pw_below_drewN | apply below_drew1 | refine below_set ?_ GE101.out | refine below_set ?_ GE104.out) | exact HB.out))) : w.heap.size ≤ gb103))
             have n6_ := Aside0.mk ((by rw [hg]; exact Nat.ne_of_lt (blk_lt (g := gb101) (o := .cells #[.int .i64 a1_0, .int .i64 a1_1, .int .i64 a1_2] 23 (0, 0)) (by (with_reducible repeat (first | refine blk_drewN ?_ _ | refine blk_drew ?_ | refine blk_alloc ?_ _)); exact BK101.out)) : gb101 ≠ gb103))
             have n7_ := Aside0.mk ((by rw [hg]; exact Nat.ne_of_gt (blk_lt (g := gb101) (o := .cells #[.int .i64 a1_0, .int .i64 a1_1, .int .i64 a1_2] 23 (0, 0)) (by (with_reducible repeat (first | refine blk_drewN ?_ _ | refine blk_drew ?_ | refine blk_alloc ?_ _)); exact BK101.out)) : gb103 ≠ gb101))
             have n8_ := Aside0.mk ((by rw [hg]; exact Nat.ne_of_lt (blk_lt (g := gb104) (o := .cells #[.int .i32 0, .int .i64 0, .int .i64 0, .int .i64 0, .int .i64 0] 25 (0, 0)) (by (with_reducible repeat (first | refine blk_drewN ?_ _ | refine blk_drew ?_ | refine blk_alloc ?_ _)); exact BK104.out)) : gb104 ≠ gb103))
             have n9_ := Aside0.mk ((by rw [hg]; exact Nat.ne_of_gt (blk_lt (g := gb104) (o := .cells #[.int .i32 0, .int .i64 0, .int .i64 0, .int .i64 0, .int .i64 0] 25 (0, 0)) (by (with_reducible repeat (first | refine blk_drewN ?_ _ | refine blk_drew ?_ | refine blk_alloc ?_ _)); exact BK104.out)) : gb103 ≠ gb104))
             clear BK101
             clear BK104
             clear HB
             have BK101 := n0_
             have BK104 := n1_
             have HB := n2_
             have BK103 := n3_
             have GW103 := n4_
             have GE103 := n5_
             have NB101_103 := n6_
             have NB103_101 := n7_
             have NB104_103 := n8_
             have NB103_104 := n9_
             clear n0_ n1_ n2_ n3_ n4_ n5_ n6_ n7_ n8_ n9_
             clear hb hbox hg
             refine hK.out _ _ ⟨(blk_cell BK101.out 0).trans rfl, (blk_cell BK101.out 1).trans rfl, (blk_cell BK101.out 2).trans rfl⟩ (fun hHeld => ?_)
             clear hK K
             refine norm_ (a' := ?_) ?_ ?_
             rotate_left
             ·show Act.put _ (some 5) _ = _
              simp only [Act.put, List.setIfInBounds_toArray, List.set_cons_zero, List.set_cons_succ, i64_w, i32_w]
              rfl
             exact norm_ (by first | (simp only [putAll, Act.put, List.setIfInBounds_toArray, List.set_cons_zero, List.set_cons_succ]; done) | (simp only [putAll, Act.put, List.setIfInBounds_toArray, List.set_cons_zero, List.set_cons_succ]; rfl)) (hJ8_9 (gb103, gb104) _ ⟨hHeld, (by (with_reducible repeat (first | refine blk_drewN ?_ _ | refine blk_drew ?_ | refine blk_alloc ?_ _)); exact BK101.out), (by (with_reducible repeat (first | refine blk_drewN ?_ _ | refine blk_drew ?_ | refine blk_alloc ?_ _)); exact BK103.out), (by (with_reducible repeat (first | refine blk_drewN ?_ _ | refine blk_drew ?_ | refine blk_alloc ?_ _)); exact BK104.out), GW103.out, GE103.out, NB101_103.out, NB103_101.out, NB104_103.out, NB103_104.out, GW104.out, GE104.out, NB101_104.out, NB104_101.out, (by repeat (first | (with_reducible first | exact HB.out | apply below_alloc | apply pw_below_drewN | apply below_drew1 | refine below_set ?_ GE101.out | refine below_set ?_ GE104.out | refine below_set ?_ GE103.out) | exact HB.out))⟩)
            ·skip
             refine box_step ?hg (N := 7) ?hd (cs := #[.int .i32 0, .int .i64 0, .int .i64 0, .int .i64 0, .int .i64 0]) (t := 25) ?hr ?_; (case hd => rfl); (case hg => rfl); (case hr => first | (go_simp; done) | (go_simp; rfl))
             intro gb105 hg w80 hbox hb
             have n0_ := Aside0.mk (blk_below (g := gb101) (o := .cells #[.int .i64 a1_0, .int .i64 a1_1, .int .i64 a1_2] 23 (0, 0)) (by (with_reducible repeat (first | refine blk_drewN ?_ _ | refine blk_drew ?_ | refine blk_alloc ?_ _)); exact BK101.out) hb)
             have n1_ := Aside0.mk (blk_below (g := gb104) (o := .cells #[.int .i32 0, .int .i64 0, .int .i64 0, .int .i64 0, .int .i64 0] 25 (0, 0)) (by (with_reducible repeat (first | refine blk_drewN ?_ _ | refine blk_drew ?_ | refine blk_alloc ?_ _)); exact BK104.out) hb)
             have n2_ := Aside0.mk (below_step (by repeat (first | (with_reducible first | exact HB.out | apply below_alloc | apply pw_below_drewN | apply below_drew1 | refine below_set ?_ GE101.out | refine below_set ?_ GE104.out) | exact HB.out)) hb)
             have n3_ := Aside0.mk (hbox)
             have n4_ := Aside0.mk ((by rw [hg]; exact (below_size (by repeat (first | (with_reducible first | exact HB.out | apply below_alloc | apply pw_below_drewN | apply below_drew1 | refine below_set ?_ GE101.out | refine below_set ?_ GE104.out) | exact HB.out))) : w.heap.size ≤ gb105))
             have n5_ := Aside0.mk ((by rw [hg]; exact (below_size (by repeat (first | (with_reducible first | exact HB.out | apply below_alloc | apply pw_below_drewN | apply below_drew1 | refine below_set ?_ GE101.out | refine below_set ?_ GE104.out) | exact HB.out))) : w.heap.size ≤ gb105))
             have n6_ := Aside0.mk ((by rw [hg]; exact Nat.ne_of_lt (blk_lt (g := gb101) (o := .cells #[.int .i64 a1_0, .int .i64 a1_1, .int .i64 a1_2] 23 (0, 0)) (by (with_reducible repeat (first | refine blk_drewN ?_ _ | refine blk_drew ?_ | refine blk_alloc ?_ _)); exact BK101.out)) : gb101 ≠ gb105))
             have n7_ := Aside0.mk ((by rw [hg]; exact Nat.ne_of_gt (blk_lt (g := gb101) (o := .cells #[.int .i64 a1_0, .int .i64 a1_1, .int .i64 a1_2] 23 (0, 0)) (by (with_reducible repeat (first | refine blk_drewN ?_ _ | refine blk_drew ?_ | refine blk_alloc ?_ _)); exact BK101.out)) : gb105 ≠ gb101))
             have n8_ := Aside0.mk ((by rw [hg]; exact Nat.ne_of_lt (blk_lt (g := gb104) (o := .cells #[.int .i32 0, .int .i64 0, .int .i64 0, .int .i64 0, .int .i64 0] 25 (0, 0)) (by (with_reducible repeat (first | refine blk_drewN ?_ _ | refine blk_drew ?_ | refine blk_alloc ?_ _)); exact BK104.out)) : gb104 ≠ gb105))
             have n9_ := Aside0.mk ((by rw [hg]; exact Nat.ne_of_gt (blk_lt (g := gb104) (o := .cells #[.int .i32 0, .int .i64 0, .int .i64 0, .int .i64 0, .int .i64 0] 25 (0, 0)) (by (with_reducible repeat (first | refine blk_drewN ?_ _ | refine blk_drew ?_ | refine blk_alloc ?_ _)); exact BK104.out)) : gb105 ≠ gb104))
             clear BK101
             clear BK104
             clear HB
             have BK101 := n0_
             have BK104 := n1_
             have HB := n2_
             have BK105 := n3_
             have GW105 := n4_
             have GE105 := n5_
             have NB101_105 := n6_
             have NB105_101 := n7_
             have NB104_105 := n8_
             have NB105_104 := n9_
             clear n0_ n1_ n2_ n3_ n4_ n5_ n6_ n7_ n8_ n9_
             clear hb hbox hg
             refine hK.out _ _ ⟨(blk_cell BK101.out 0).trans rfl, (blk_cell BK101.out 1).trans rfl, (blk_cell BK101.out 2).trans rfl⟩ (fun hHeld => ?_)
             clear hK K
             refine norm_ (a' := ?_) ?_ ?_
             rotate_left
             ·show Act.put _ (some 7) _ = _
              simp only [Act.put, List.setIfInBounds_toArray, List.set_cons_zero, List.set_cons_succ, i64_w, i32_w]
              rfl
             exact norm_ (by first | (simp only [putAll, Act.put, List.setIfInBounds_toArray, List.set_cons_zero, List.set_cons_succ]; done) | (simp only [putAll, Act.put, List.setIfInBounds_toArray, List.set_cons_zero, List.set_cons_succ]; rfl)) (hJ9_10 (gb104, gb105) _ ⟨hHeld, (by (with_reducible repeat (first | refine blk_drewN ?_ _ | refine blk_drew ?_ | refine blk_alloc ?_ _)); exact BK101.out), (by (with_reducible repeat (first | refine blk_drewN ?_ _ | refine blk_drew ?_ | refine blk_alloc ?_ _)); exact BK104.out), (by (with_reducible repeat (first | refine blk_drewN ?_ _ | refine blk_drew ?_ | refine blk_alloc ?_ _)); exact BK105.out), GW104.out, GE104.out, NB101_104.out, NB104_101.out, NB105_104.out, NB104_105.out, GW105.out, GE105.out, NB101_105.out, NB105_101.out, (by repeat (first | (with_reducible first | exact HB.out | apply below_alloc | apply pw_below_drewN | apply below_drew1 | refine below_set ?_ GE101.out | refine below_set ?_ GE104.out | refine below_set ?_ GE105.out) | exact HB.out))⟩)
          ·skip
           rintro gb103 w79 ⟨hS_, h0_, h1_, h2_, h3_, h4_, h5_, h6_⟩
           have n0_ : Aside0 (w79.heap[gb101]? = some (.cells #[.int .i64 a1_0, .int .i64 a1_1, .int .i64 a1_2] 23 (0, 0))) := ⟨h0_⟩
           have n1_ : Aside0 (w79.heap[gb103]? = some (.cells #[.int .i32 0, .int .i64 0, .int .i64 0, .int .i64 0, .int .i64 0] 25 (0, 0))) := ⟨h1_⟩
           have n2_ : Aside0 (w.heap.size ≤ gb103) := ⟨h2_⟩
           have n3_ : Aside0 (w.heap.size ≤ gb103) := ⟨h3_⟩
           have n4_ : Aside0 (gb101 ≠ gb103) := ⟨h4_⟩
           have n5_ : Aside0 (gb103 ≠ gb101) := ⟨h5_⟩
           have n6_ : Aside0 (Below w.heap.size w w79) := ⟨h6_⟩
           clear BK101
           clear HB
           clear h0_ h1_ h2_ h3_ h4_ h5_ h6_
           have BK101 := n0_
           have BK103 := n1_
           have GW103 := n2_
           have GE103 := n3_
           have NB101_103 := n4_
           have NB103_101 := n5_
           have HB := n6_
           clear n0_ n1_ n2_ n3_ n4_ n5_ n6_
           have hHeld : w79.cell? ⟨gb101, 0, none⟩ = some (.int .i64 a1_0) ∧ w79.cell? ⟨gb101, 1, none⟩ = some (.int .i64 a1_1) ∧ w79.cell? ⟨gb101, 2, none⟩ = some (.int .i64 a1_2) := hS_
           refine norm_ (a' := ?_) ?_ ?_
           rotate_left
           ·simp only [putAll, Act.put, List.setIfInBounds_toArray, List.set_cons_zero, List.set_cons_succ]
            rfl
           refine two_ (i := 9) (j := 10) (Ni := some 6) (Nj := some 7) #[true, true, true, true, true, true, true, true, true, true, false, false, false, false] #[true, true, true, true, true, true, true, true, true, false, true, false, false, false] rfl rfl rfl rfl (two_of HT_.out (by kernel_rfl)) (by decide) (by decide) (fun K hK => ?_) (fun K hK => ?_)
           ·skip
            refine box_step ?hg (N := 6) ?hd (cs := #[.int .i32 0, .int .i64 0, .int .i64 0, .int .i64 0, .int .i64 0]) (t := 25) ?hr ?_; (case hd => rfl); (case hg => rfl); (case hr => first | (go_simp; done) | (go_simp; rfl))
            intro gb104 hg w80 hbox hb
            have n0_ := Aside0.mk (blk_below (g := gb101) (o := .cells #[.int .i64 a1_0, .int .i64 a1_1, .int .i64 a1_2] 23 (0, 0)) (by (with_reducible repeat (first | refine blk_drewN ?_ _ | refine blk_drew ?_ | refine blk_alloc ?_ _)); exact BK101.out) hb)
            have n1_ := Aside0.mk (blk_below (g := gb103) (o := .cells #[.int .i32 0, .int .i64 0, .int .i64 0, .int .i64 0, .int .i64 0] 25 (0, 0)) (by (with_reducible repeat (first | refine blk_drewN ?_ _ | refine blk_drew ?_ | refine blk_alloc ?_ _)); exact BK103.out) hb)
            have n2_ := Aside0.mk (below_step (by repeat (first | (with_reducible first | exact HB.out | apply below_alloc | apply pw_below_drewN | apply below_drew1 | refine below_set ?_ GE101.out | refine below_set ?_ GE103.out) | exact HB.out)) hb)
            have n3_ := Aside0.mk (hbox)
            have n4_ := Aside0.mk ((by rw [hg]; exact (below_size (by repeat (first | (with_reducible first | exact HB.out | apply below_alloc | apply pw_below_drewN | apply below_drew1 | refine below_set ?_ GE101.out | refine below_set ?_ GE103.out) | exact HB.out))) : w.heap.size ≤ gb104))
            have n5_ := Aside0.mk ((by rw [hg]; exact (below_size (by repeat (first | (with_reducible first | exact HB.out | apply below_alloc | apply pw_below_drewN | apply below_drew1 | refine below_set ?_ GE101.out | refine below_set ?_ GE103.out) | exact HB.out))) : w.heap.size ≤ gb104))
            have n6_ := Aside0.mk ((by rw [hg]; exact Nat.ne_of_lt (blk_lt (g := gb101) (o := .cells #[.int .i64 a1_0, .int .i64 a1_1, .int .i64 a1_2] 23 (0, 0)) (by (with_reducible repeat (first | refine blk_drewN ?_ _ | refine blk_drew ?_ | refine blk_alloc ?_ _)); exact BK101.out)) : gb101 ≠ gb104))
            have n7_ := Aside0.mk ((by rw [hg]; exact Nat.ne_of_gt (blk_lt (g := gb101) (o := .cells #[.int .i64 a1_0, .int .i64 a1_1, .int .i64 a1_2] 23 (0, 0)) (by (with_reducible repeat (first | refine blk_drewN ?_ _ | refine blk_drew ?_ | refine blk_alloc ?_ _)); exact BK101.out)) : gb104 ≠ gb101))
            have n8_ := Aside0.mk ((by rw [hg]; exact Nat.ne_of_lt (blk_lt (g := gb103) (o := .cells #[.int .i32 0, .int .i64 0, .int .i64 0, .int .i64 0, .int .i64 0] 25 (0, 0)) (by (with_reducible repeat (first | refine blk_drewN ?_ _ | refine blk_drew ?_ | refine blk_alloc ?_ _)); exact BK103.out)) : gb103 ≠ gb104))
            have n9_ := Aside0.mk ((by rw [hg]; exact Nat.ne_of_gt (blk_lt (g := gb103) (o := .cells #[.int .i32 0, .int .i64 0, .int .i64 0, .int .i64 0, .int .i64 0] 25 (0, 0)) (by (with_reducible repeat (first | refine blk_drewN ?_ _ | refine blk_drew ?_ | refine blk_alloc ?_ _)); exact BK103.out)) : gb104 ≠ gb103))
            clear BK101
            clear BK103
            clear HB
            have BK101 := n0_
            have BK103 := n1_
            have HB := n2_
            have BK104 := n3_
            have GW104 := n4_
            have GE104 := n5_
            have NB101_104 := n6_
            have NB104_101 := n7_
            have NB103_104 := n8_
            have NB104_103 := n9_
            clear n0_ n1_ n2_ n3_ n4_ n5_ n6_ n7_ n8_ n9_
            clear hb hbox hg
            refine hK.out _ _ ⟨(blk_cell BK101.out 0).trans rfl, (blk_cell BK101.out 1).trans rfl, (blk_cell BK101.out 2).trans rfl⟩ (fun hHeld => ?_)
            clear hK K
            refine norm_ (a' := ?_) ?_ ?_
            rotate_left
            ·show Act.put _ (some 6) _ = _
             simp only [Act.put, List.setIfInBounds_toArray, List.set_cons_zero, List.set_cons_succ, i64_w, i32_w]
             rfl
            exact norm_ (by first | (simp only [putAll, Act.put, List.setIfInBounds_toArray, List.set_cons_zero, List.set_cons_succ]; done) | (simp only [putAll, Act.put, List.setIfInBounds_toArray, List.set_cons_zero, List.set_cons_succ]; rfl)) (hJ8_9 (gb103, gb104) _ ⟨hHeld, (by (with_reducible repeat (first | refine blk_drewN ?_ _ | refine blk_drew ?_ | refine blk_alloc ?_ _)); exact BK101.out), (by (with_reducible repeat (first | refine blk_drewN ?_ _ | refine blk_drew ?_ | refine blk_alloc ?_ _)); exact BK103.out), (by (with_reducible repeat (first | refine blk_drewN ?_ _ | refine blk_drew ?_ | refine blk_alloc ?_ _)); exact BK104.out), GW103.out, GE103.out, NB101_103.out, NB103_101.out, NB104_103.out, NB103_104.out, GW104.out, GE104.out, NB101_104.out, NB104_101.out, (by repeat (first | (with_reducible first | exact HB.out | apply below_alloc | apply pw_below_drewN | apply below_drew1 | refine below_set ?_ GE101.out | refine below_set ?_ GE103.out | refine below_set ?_ GE104.out) | exact HB.out))⟩)
           ·skip
            refine box_step ?hg (N := 7) ?hd (cs := #[.int .i32 0, .int .i64 0, .int .i64 0, .int .i64 0, .int .i64 0]) (t := 25) ?hr ?_; (case hd => rfl); (case hg => rfl); (case hr => first | (go_simp; done) | (go_simp; rfl))
            intro gb105 hg w80 hbox hb
            have n0_ := Aside0.mk (blk_below (g := gb101) (o := .cells #[.int .i64 a1_0, .int .i64 a1_1, .int .i64 a1_2] 23 (0, 0)) (by (with_reducible repeat (first | refine blk_drewN ?_ _ | refine blk_drew ?_ | refine blk_alloc ?_ _)); exact BK101.out) hb)
            have n1_ := Aside0.mk (blk_below (g := gb103) (o := .cells #[.int .i32 0, .int .i64 0, .int .i64 0, .int .i64 0, .int .i64 0] 25 (0, 0)) (by (with_reducible repeat (first | refine blk_drewN ?_ _ | refine blk_drew ?_ | refine blk_alloc ?_ _)); exact BK103.out) hb)
            have n2_ := Aside0.mk (below_step (by repeat (first | (with_reducible first | exact HB.out | apply below_alloc | apply pw_below_drewN | apply below_drew1 | refine below_set ?_ GE101.out | refine below_set ?_ GE103.out) | exact HB.out)) hb)
            have n3_ := Aside0.mk (hbox)
            have n4_ := Aside0.mk ((by rw [hg]; exact (below_size (by repeat (first | (with_reducible first | exact HB.out | apply below_alloc | apply pw_below_drewN | apply below_drew1 | refine below_set ?_ GE101.out | refine below_set ?_ GE103.out) | exact HB.out))) : w.heap.size ≤ gb105))
            have n5_ := Aside0.mk ((by rw [hg]; exact (below_size (by repeat (first | (with_reducible first | exact HB.out | apply below_alloc | apply pw_below_drewN | apply below_drew1 | refine below_set ?_ GE101.out | refine below_set ?_ GE103.out) | exact HB.out))) : w.heap.size ≤ gb105))
            have n6_ := Aside0.mk ((by rw [hg]; exact Nat.ne_of_lt (blk_lt (g := gb101) (o := .cells #[.int .i64 a1_0, .int .i64 a1_1, .int .i64 a1_2] 23 (0, 0)) (by (with_reducible repeat (first | refine blk_drewN ?_ _ | refine blk_drew ?_ | refine blk_alloc ?_ _)); exact BK101.out)) : gb101 ≠ gb105))
            have n7_ := Aside0.mk ((by rw [hg]; exact Nat.ne_of_gt (blk_lt (g := gb101) (o := .cells #[.int .i64 a1_0, .int .i64 a1_1, .int .i64 a1_2] 23 (0, 0)) (by (with_reducible repeat (first | refine blk_drewN ?_ _ | refine blk_drew ?_ | refine blk_alloc ?_ _)); exact BK101.out)) : gb105 ≠ gb101))
            have n8_ := Aside0.mk ((by rw [hg]; exact Nat.ne_of_lt (blk_lt (g := gb103) (o := .cells #[.int .i32 0, .int .i64 0, .int .i64 0, .int .i64 0, .int .i64 0] 25 (0, 0)) (by (with_reducible repeat (first | refine blk_drewN ?_ _ | refine blk_drew ?_ | refine blk_alloc ?_ _)); exact BK103.out)) : gb103 ≠ gb105))
            have n9_ := Aside0.mk ((by rw [hg]; exact Nat.ne_of_gt (blk_lt (g := gb103) (o := .cells #[.int .i32 0, .int .i64 0, .int .i64 0, .int .i64 0, .int .i64 0] 25 (0, 0)) (by (with_reducible repeat (first | refine blk_drewN ?_ _ | refine blk_drew ?_ | refine blk_alloc ?_ _)); exact BK103.out)) : gb105 ≠ gb103))
            clear BK101
            clear BK103
            clear HB
            have BK101 := n0_
            have BK103 := n1_
            have HB := n2_
            have BK105 := n3_
            have GW105 := n4_
            have GE105 := n5_
            have NB101_105 := n6_
            have NB105_101 := n7_
            have NB103_105 := n8_
            have NB105_103 := n9_
            clear n0_ n1_ n2_ n3_ n4_ n5_ n6_ n7_ n8_ n9_
            clear hb hbox hg
            refine hK.out _ _ ⟨(blk_cell BK101.out 0).trans rfl, (blk_cell BK101.out 1).trans rfl, (blk_cell BK101.out 2).trans rfl⟩ (fun hHeld => ?_)
            clear hK K
            refine norm_ (a' := ?_) ?_ ?_
            rotate_left
            ·show Act.put _ (some 7) _ = _
             simp only [Act.put, List.setIfInBounds_toArray, List.set_cons_zero, List.set_cons_succ, i64_w, i32_w]
             rfl
            exact norm_ (by first | (simp only [putAll, Act.put, List.setIfInBounds_toArray, List.set_cons_zero, List.set_cons_succ]; done) | (simp only [putAll, Act.put, List.setIfInBounds_toArray, List.set_cons_zero, List.set_cons_succ]; rfl)) (hJ8_10 (gb103, gb105) _ ⟨hHeld, (by (with_reducible repeat (first | refine blk_drewN ?_ _ | refine blk_drew ?_ | refine blk_alloc ?_ _)); exact BK101.out), (by (with_reducible repeat (first | refine blk_drewN ?_ _ | refine blk_drew ?_ | refine blk_alloc ?_ _)); exact BK103.out), (by (with_reducible repeat (first | refine blk_drewN ?_ _ | refine blk_drew ?_ | refine blk_alloc ?_ _)); exact BK105.out), GW103.out, GE103.out, NB101_103.out, NB103_101.out, NB105_103.out, NB103_105.out, GW105.out, GE105.out, NB101_105.out, NB105_101.out, (by repeat (first | (with_reducible first | exact HB.out | apply below_alloc | apply pw_below_drewN | apply below_drew1 | refine below_set ?_ GE101.out | refine below_set ?_ GE103.out | refine below_set ?_ GE105.out) | exact HB.out))⟩)
         ·skip
          rintro ⟨gb104, gb105⟩ w80 ⟨hS_, h0_, h1_, h2_, h3_, h4_, h5_, h6_, h7_, h8_, h9_, h10_, h11_, h12_, h13_⟩
          have n0_ : Aside0 (w80.heap[gb101]? = some (.cells #[.int .i64 a1_0, .int .i64 a1_1, .int .i64 a1_2] 23 (0, 0))) := ⟨h0_⟩
          have n1_ : Aside0 (w80.heap[gb104]? = some (.cells #[.int .i32 0, .int .i64 0, .int .i64 0, .int .i64 0, .int .i64 0] 25 (0, 0))) := ⟨h1_⟩
          have n2_ : Aside0 (w80.heap[gb105]? = some (.cells #[.int .i32 0, .int .i64 0, .int .i64 0, .int .i64 0, .int .i64 0] 25 (0, 0))) := ⟨h2_⟩
          have n3_ : Aside0 (w.heap.size ≤ gb104) := ⟨h3_⟩
          have n4_ : Aside0 (w.heap.size ≤ gb104) := ⟨h4_⟩
          have n5_ : Aside0 (gb101 ≠ gb104) := ⟨h5_⟩
          have n6_ : Aside0 (gb104 ≠ gb101) := ⟨h6_⟩
          have n7_ : Aside0 (gb105 ≠ gb104) := ⟨h7_⟩
          have n8_ : Aside0 (gb104 ≠ gb105) := ⟨h8_⟩
          have n9_ : Aside0 (w.heap.size ≤ gb105) := ⟨h9_⟩
          have n10_ : Aside0 (w.heap.size ≤ gb105) := ⟨h10_⟩
          have n11_ : Aside0 (gb101 ≠ gb105) := ⟨h11_⟩
          have n12_ : Aside0 (gb105 ≠ gb101) := ⟨h12_⟩
          have n13_ : Aside0 (Below w.heap.size w w80) := ⟨h13_⟩
          clear BK101
          clear HB
          clear h0_ h1_ h2_ h3_ h4_ h5_ h6_ h7_ h8_ h9_ h10_ h11_ h12_ h13_
          have BK101 := n0_
          have BK104 := n1_
          have BK105 := n2_
          have GW104 := n3_
          have GE104 := n4_
          have NB101_104 := n5_
          have NB104_101 := n6_
          have NB105_104 := n7_
          have NB104_105 := n8_
          have GW105 := n9_
          have GE105 := n10_
          have NB101_105 := n11_
          have NB105_101 := n12_
          have HB := n13_
          clear n0_ n1_ n2_ n3_ n4_ n5_ n6_ n7_ n8_ n9_ n10_ n11_ n12_ n13_
          have hHeld : w80.cell? ⟨gb101, 0, none⟩ = some (.int .i64 a1_0) ∧ w80.cell? ⟨gb101, 1, none⟩ = some (.int .i64 a1_1) ∧ w80.cell? ⟨gb101, 2, none⟩ = some (.int .i64 a1_2) := hS_
          refine norm_ (a' := ?_) ?_ ?_
          rotate_left
          ·simp only [putAll, Act.put, List.setIfInBounds_toArray, List.set_cons_zero, List.set_cons_succ]
           rfl
          refine one_ (i := 8) (N := some 5) #[true, true, true, true, true, true, true, true, true, true, true, false, false, false] rfl rfl (one_of HT_.out (by kernel_rfl)) (by decide) (fun K hK => ?_)
          refine box_step ?hg (N := 5) ?hd (cs := #[.int .i32 0, .int .i64 0, .int .i64 0, .int .i64 0, .int .i64 0]) (t := 25) ?hr ?_; (case hd => rfl); (case hg => rfl); (case hr => first | (go_simp; done) | (go_simp; rfl))
          intro gb103 hg w81 hbox hb
          have n0_ := Aside0.mk (blk_below (g := gb101) (o := .cells #[.int .i64 a1_0, .int .i64 a1_1, .int .i64 a1_2] 23 (0, 0)) (by (with_reducible repeat (first | refine blk_drewN ?_ _ | refine blk_drew ?_ | refine blk_alloc ?_ _)); exact BK101.out) hb)
          have n1_ := Aside0.mk (blk_below (g := gb104) (o := .cells #[.int .i32 0, .int .i64 0, .int .i64 0, .int .i64 0, .int .i64 0] 25 (0, 0)) (by (with_reducible repeat (first | refine blk_drewN ?_ _ | refine blk_drew ?_ | refine blk_alloc ?_ _)); exact BK104.out) hb)
          have n2_ := Aside0.mk (blk_below (g := gb105) (o := .cells #[.int .i32 0, .int .i64 0, .int .i64 0, .int .i64 0, .int .i64 0] 25 (0, 0)) (by (with_reducible repeat (first | refine blk_drewN ?_ _ | refine blk_drew ?_ | refine blk_alloc ?_ _)); exact BK105.out) hb)
          have n3_ := Aside0.mk (below_step (by repeat (first | (with_reducible first | exact HB.out | apply below_alloc | apply pw_below_drewN | apply below_drew1 | refine below_set ?_ GE101.out | refine below_set ?_ GE104.out | refine below_set ?_ GE105.out) | exact HB.out)) hb)
          have n4_ := Aside0.mk (hbox)
          have n5_ := Aside0.mk ((by rw [hg]; exact (below_size (by repeat (first | (with_reducible first | exact HB.out | apply below_alloc | apply pw_below_drewN | apply below_drew1 | refine below_set ?_ GE101.out | refine below_set ?_ GE104.out | refine below_set ?_ GE105.out) | exact HB.out))) : w.heap.size ≤ gb103))
          have n6_ := Aside0.mk ((by rw [hg]; exact (below_size (by repeat (first | (with_reducible first | exact HB.out | apply below_alloc | apply pw_below_drewN | apply below_drew1 | refine below_set ?_ GE101.out | refine below_set ?_ GE104.out | refine below_set ?_ GE105.out) | exact HB.out))) : w.heap.size ≤ gb103))
          have n7_ := Aside0.mk ((by rw [hg]; exact Nat.ne_of_lt (blk_lt (g := gb101) (o := .cells #[.int .i64 a1_0, .int .i64 a1_1, .int .i64 a1_2] 23 (0, 0)) (by (with_reducible repeat (first | refine blk_drewN ?_ _ | refine blk_drew ?_ | refine blk_alloc ?_ _)); exact BK101.out)) : gb101 ≠ gb103))
          have n8_ := Aside0.mk ((by rw [hg]; exact Nat.ne_of_gt (blk_lt (g := gb101) (o := .cells #[.int .i64 a1_0, .int .i64 a1_1, .int .i64 a1_2] 23 (0, 0)) (by (with_reducible repeat (first | refine blk_drewN ?_ _ | refine blk_drew ?_ | refine blk_alloc ?_ _)); exact BK101.out)) : gb103 ≠ gb101))
          have n9_ := Aside0.mk ((by rw [hg]; exact Nat.ne_of_lt (blk_lt (g := gb104) (o := .cells #[.int .i32 0, .int .i64 0, .int .i64 0, .int .i64 0, .int .i64 0] 25 (0, 0)) (by (with_reducible repeat (first | refine blk_drewN ?_ _ | refine blk_drew ?_ | refine blk_alloc ?_ _)); exact BK104.out)) : gb104 ≠ gb103))
          have n10_ := Aside0.mk ((by rw [hg]; exact Nat.ne_of_gt (blk_lt (g := gb104) (o := .cells #[.int .i32 0, .int .i64 0, .int .i64 0, .int .i64 0, .int .i64 0] 25 (0, 0)) (by (with_reducible repeat (first | refine blk_drewN ?_ _ | refine blk_drew ?_ | refine blk_alloc ?_ _)); exact BK104.out)) : gb103 ≠ gb104))
          have n11_ := Aside0.mk ((by rw [hg]; exact Nat.ne_of_lt (blk_lt (g := gb105) (o := .cells #[.int .i32 0, .int .i64 0, .int .i64 0, .int .i64 0, .int .i64 0] 25 (0, 0)) (by (with_reducible repeat (first | refine blk_drewN ?_ _ | refine blk_drew ?_ | refine blk_alloc ?_ _)); exact BK105.out)) : gb105 ≠ gb103))
          have n12_ := Aside0.mk ((by rw [hg]; exact Nat.ne_of_gt (blk_lt (g := gb105) (o := .cells #[.int .i32 0, .int .i64 0, .int .i64 0, .int .i64 0, .int .i64 0] 25 (0, 0)) (by (with_reducible repeat (first | refine blk_drewN ?_ _ | refine blk_drew ?_ | refine blk_alloc ?_ _)); exact BK105.out)) : gb103 ≠ gb105))
          clear BK101
          clear BK104
          clear BK105
          clear HB
          have BK101 := n0_
          have BK104 := n1_
          have BK105 := n2_
          have HB := n3_
          have BK103 := n4_
          have GW103 := n5_
          have GE103 := n6_
          have NB101_103 := n7_
          have NB103_101 := n8_
          have NB104_103 := n9_
          have NB103_104 := n10_
          have NB105_103 := n11_
          have NB103_105 := n12_
          clear n0_ n1_ n2_ n3_ n4_ n5_ n6_ n7_ n8_ n9_ n10_ n11_ n12_
          clear hb hbox hg
          refine hK.out _ _ ⟨(blk_cell BK101.out 0).trans rfl, (blk_cell BK101.out 1).trans rfl, (blk_cell BK101.out 2).trans rfl⟩ (fun hHeld => ?_)
          clear hK K
          refine norm_ (a' := ?_) ?_ ?_
          rotate_left
          ·show Act.put _ (some 5) _ = _
           simp only [Act.put, List.setIfInBounds_toArray, List.set_cons_zero, List.set_cons_succ, i64_w, i32_w]
           rfl
          exact norm_ (by first | (simp only [putAll, Act.put, List.setIfInBounds_toArray, List.set_cons_zero, List.set_cons_succ]; done) | (simp only [putAll, Act.put, List.setIfInBounds_toArray, List.set_cons_zero, List.set_cons_succ]; rfl)) (hJ8_9_10 (gb103, gb104, gb105) _ ⟨hHeld, (by (with_reducible repeat (first | refine blk_drewN ?_ _ | refine blk_drew ?_ | refine blk_alloc ?_ _)); exact BK101.out), (by (with_reducible repeat (first | refine blk_drewN ?_ _ | refine blk_drew ?_ | refine blk_alloc ?_ _)); exact BK103.out), (by (with_reducible repeat (first | refine blk_drewN ?_ _ | refine blk_drew ?_ | refine blk_alloc ?_ _)); exact BK104.out), (by (with_reducible repeat (first | refine blk_drewN ?_ _ | refine blk_drew ?_ | refine blk_alloc ?_ _)); exact BK105.out), GW103.out, GE103.out, NB101_103.out, NB103_101.out, NB104_103.out, NB103_104.out, NB105_103.out, NB103_105.out, GW104.out, GE104.out, NB101_104.out, NB104_101.out, NB105_104.out, NB104_105.out, GW105.out, GE105.out, NB101_105.out, NB105_101.out, (by repeat (first | (with_reducible first | exact HB.out | apply below_alloc | apply pw_below_drewN | apply below_drew1 | refine below_set ?_ GE101.out | refine below_set ?_ GE104.out | refine below_set ?_ GE105.out | refine below_set ?_ GE103.out) | exact HB.out))⟩)
        ·skip
         rintro ⟨gb103, gb105⟩ w80 ⟨hS_, h0_, h1_, h2_, h3_, h4_, h5_, h6_, h7_, h8_, h9_, h10_, h11_, h12_, h13_⟩
         have n0_ : Aside0 (w80.heap[gb101]? = some (.cells #[.int .i64 a1_0, .int .i64 a1_1, .int .i64 a1_2] 23 (0, 0))) := ⟨h0_⟩
         have n1_ : Aside0 (w80.heap[gb103]? = some (.cells #[.int .i32 0, .int .i64 0, .int .i64 0, .int .i64 0, .int .i64 0] 25 (0, 0))) := ⟨h1_⟩
         have n2_ : Aside0 (w80.heap[gb105]? = some (.cells #[.int .i32 0, .int .i64 0, .int .i64 0, .int .i64 0, .int .i64 0] 25 (0, 0))) := ⟨h2_⟩
         have n3_ : Aside0 (w.heap.size ≤ gb103) := ⟨h3_⟩
         have n4_ : Aside0 (w.heap.size ≤ gb103) := ⟨h4_⟩
         have n5_ : Aside0 (gb101 ≠ gb103) := ⟨h5_⟩
         have n6_ : Aside0 (gb103 ≠ gb101) := ⟨h6_⟩
         have n7_ : Aside0 (gb105 ≠ gb103) := ⟨h7_⟩
         have n8_ : Aside0 (gb103 ≠ gb105) := ⟨h8_⟩
         have n9_ : Aside0 (w.heap.size ≤ gb105) := ⟨h9_⟩
         have n10_ : Aside0 (w.heap.size ≤ gb105) := ⟨h10_⟩
         have n11_ : Aside0 (gb101 ≠ gb105) := ⟨h11_⟩
         have n12_ : Aside0 (gb105 ≠ gb101) := ⟨h12_⟩
         have n13_ : Aside0 (Below w.heap.size w w80) := ⟨h13_⟩
         clear BK101
         clear HB
         clear h0_ h1_ h2_ h3_ h4_ h5_ h6_ h7_ h8_ h9_ h10_ h11_ h12_ h13_
         have BK101 := n0_
         have BK103 := n1_
         have BK105 := n2_
         have GW103 := n3_
         have GE103 := n4_
         have NB101_103 := n5_
         have NB103_101 := n6_
         have NB105_103 := n7_
         have NB103_105 := n8_
         have GW105 := n9_
         have GE105 := n10_
         have NB101_105 := n11_
         have NB105_101 := n12_
         have HB := n13_
         clear n0_ n1_ n2_ n3_ n4_ n5_ n6_ n7_ n8_ n9_ n10_ n11_ n12_ n13_
         have hHeld : w80.cell? ⟨gb101, 0, none⟩ = some (.int .i64 a1_0) ∧ w80.cell? ⟨gb101, 1, none⟩ = some (.int .i64 a1_1) ∧ w80.cell? ⟨gb101, 2, none⟩ = some (.int .i64 a1_2) := hS_
         refine norm_ (a' := ?_) ?_ ?_
         rotate_left
         ·simp only [putAll, Act.put, List.setIfInBounds_toArray, List.set_cons_zero, List.set_cons_succ]
          rfl
         refine one_ (i := 9) (N := some 6) #[true, true, true, true, true, true, true, true, true, true, true, false, false, false] rfl rfl (one_of HT_.out (by kernel_rfl)) (by decide) (fun K hK => ?_)
         refine box_step ?hg (N := 6) ?hd (cs := #[.int .i32 0, .int .i64 0, .int .i64 0, .int .i64 0, .int .i64 0]) (t := 25) ?hr ?_; (case hd => rfl); (case hg => rfl); (case hr => first | (go_simp; done) | (go_simp; rfl))
         intro gb104 hg w81 hbox hb
         have n0_ := Aside0.mk (blk_below (g := gb101) (o := .cells #[.int .i64 a1_0, .int .i64 a1_1, .int .i64 a1_2] 23 (0, 0)) (by (with_reducible repeat (first | refine blk_drewN ?_ _ | refine blk_drew ?_ | refine blk_alloc ?_ _)); exact BK101.out) hb)
         have n1_ := Aside0.mk (blk_below (g := gb103) (o := .cells #[.int .i32 0, .int .i64 0, .int .i64 0, .int .i64 0, .int .i64 0] 25 (0, 0)) (by (with_reducible repeat (first | refine blk_drewN ?_ _ | refine blk_drew ?_ | refine blk_alloc ?_ _)); exact BK103.out) hb)
         have n2_ := Aside0.mk (blk_below (g := gb105) (o := .cells #[.int .i32 0, .int .i64 0, .int .i64 0, .int .i64 0, .int .i64 0] 25 (0, 0)) (by (with_reducible repeat (first | refine blk_drewN ?_ _ | refine blk_drew ?_ | refine blk_alloc ?_ _)); exact BK105.out) hb)
         have n3_ := Aside0.mk (below_step (by repeat (first | (with_reducible first | exact HB.out | apply below_alloc | apply pw_below_drewN | apply below_drew1 | refine below_set ?_ GE101.out | refine below_set ?_ GE103.out | refine below_set ?_ GE105.out) | exact HB.out)) hb)
         have n4_ := Aside0.mk (hbox)
         have n5_ := Aside0.mk ((by rw [hg]; exact (below_size (by repeat (first | (with_reducible first | exact HB.out | apply below_alloc | apply pw_below_drewN | apply below_drew1 | refine below_set ?_ GE101.out | refine below_set ?_ GE103.out | refine below_set ?_ GE105.out) | exact HB.out))) : w.heap.size ≤ gb104))
         have n6_ := Aside0.mk ((by rw [hg]; exact (below_size (by repeat (first | (with_reducible first | exact HB.out | apply below_alloc | apply pw_below_drewN | apply below_drew1 | refine below_set ?_ GE101.out | refine below_set ?_ GE103.out | refine below_set ?_ GE105.out) | exact HB.out))) : w.heap.size ≤ gb104))
         have n7_ := Aside0.mk ((by rw [hg]; exact Nat.ne_of_lt (blk_lt (g := gb101) (o := .cells #[.int .i64 a1_0, .int .i64 a1_1, .int .i64 a1_2] 23 (0, 0)) (by (with_reducible repeat (first | refine blk_drewN ?_ _ | refine blk_drew ?_ | refine blk_alloc ?_ _)); exact BK101.out)) : gb101 ≠ gb104))
         have n8_ := Aside0.mk ((by rw [hg]; exact Nat.ne_of_gt (blk_lt (g := gb101) (o := .cells #[.int .i64 a1_0, .int .i64 a1_1, .int .i64 a1_2] 23 (0, 0)) (by (with_reducible repeat (first | refine blk_drewN ?_ _ | refine blk_drew ?_ | refine blk_alloc ?_ _)); exact BK101.out)) : gb104 ≠ gb101))
         have n9_ := Aside0.mk ((by rw [hg]; exact Nat.ne_of_lt (blk_lt (g := gb103) (o := .cells #[.int .i32 0, .int .i64 0, .int .i64 0, .int .i64 0, .int .i64 0] 25 (0, 0)) (by (with_reducible repeat (first | refine blk_drewN ?_ _ | refine blk_drew ?_ | refine blk_alloc ?_ _)); exact BK103.out)) : gb103 ≠ gb104))
         have n10_ := Aside0.mk ((by rw [hg]; exact Nat.ne_of_gt (blk_lt (g := gb103) (o := .cells #[.int .i32 0, .int .i64 0, .int .i64 0, .int .i64 0, .int .i64 0] 25 (0, 0)) (by (with_reducible repeat (first | refine blk_drewN ?_ _ | refine blk_drew ?_ | refine blk_alloc ?_ _)); exact BK103.out)) : gb104 ≠ gb103))
         have n11_ := Aside0.mk ((by rw [hg]; exact Nat.ne_of_lt (blk_lt (g := gb105) (o := .cells #[.int .i32 0, .int .i64 0, .int .i64 0, .int .i64 0, .int .i64 0] 25 (0, 0)) (by (with_reducible repeat (first | refine blk_drewN ?_ _ | refine blk_drew ?_ | refine blk_alloc ?_ _)); exact BK105.out)) : gb105 ≠ gb104))
         have n12_ := Aside0.mk ((by rw [hg]; exact Nat.ne_of_gt (blk_lt (g := gb105) (o := .cells #[.int .i32 0, .int .i64 0, .int .i64 0, .int .i64 0, .int .i64 0] 25 (0, 0)) (by (with_reducible repeat (first | refine blk_drewN ?_ _ | refine blk_drew ?_ | refine blk_alloc ?_ _)); exact BK105.out)) : gb104 ≠ gb105))
         clear BK101
         clear BK103
         clear BK105
         clear HB
         have BK101 := n0_
         have BK103 := n1_
         have BK105 := n2_
         have HB := n3_
         have BK104 := n4_
         have GW104 := n5_
         have GE104 := n6_
         have NB101_104 := n7_
         have NB104_101 := n8_
         have NB103_104 := n9_
         have NB104_103 := n10_
         have NB105_104 := n11_
         have NB104_105 := n12_
         clear n0_ n1_ n2_ n3_ n4_ n5_ n6_ n7_ n8_ n9_ n10_ n11_ n12_
         clear hb hbox hg
         refine hK.out _ _ ⟨(blk_cell BK101.out 0).trans rfl, (blk_cell BK101.out 1).trans rfl, (blk_cell BK101.out 2).trans rfl⟩ (fun hHeld => ?_)
         clear hK K
         refine norm_ (a' := ?_) ?_ ?_
         rotate_left
         ·show Act.put _ (some 6) _ = _
          simp only [Act.put, List.setIfInBounds_toArray, List.set_cons_zero, List.set_cons_succ, i64_w, i32_w]
          rfl
         exact norm_ (by first | (simp only [putAll, Act.put, List.setIfInBounds_toArray, List.set_cons_zero, List.set_cons_succ]; done) | (simp only [putAll, Act.put, List.setIfInBounds_toArray, List.set_cons_zero, List.set_cons_succ]; rfl)) (hJ8_9_10 (gb103, gb104, gb105) _ ⟨hHeld, (by (with_reducible repeat (first | refine blk_drewN ?_ _ | refine blk_drew ?_ | refine blk_alloc ?_ _)); exact BK101.out), (by (with_reducible repeat (first | refine blk_drewN ?_ _ | refine blk_drew ?_ | refine blk_alloc ?_ _)); exact BK103.out), (by (with_reducible repeat (first | refine blk_drewN ?_ _ | refine blk_drew ?_ | refine blk_alloc ?_ _)); exact BK104.out), (by (with_reducible repeat (first | refine blk_drewN ?_ _ | refine blk_drew ?_ | refine blk_alloc ?_ _)); exact BK105.out), GW103.out, GE103.out, NB101_103.out, NB103_101.out, NB104_103.out, NB103_104.out, NB105_103.out, NB103_105.out, GW104.out, GE104.out, NB101_104.out, NB104_101.out, NB105_104.out, NB104_105.out, GW105.out, GE105.out, NB101_105.out, NB105_101.out, (by repeat (first | (with_reducible first | exact HB.out | apply below_alloc | apply pw_below_drewN | apply below_drew1 | refine below_set ?_ GE101.out | refine below_set ?_ GE103.out | refine below_set ?_ GE105.out | refine below_set ?_ GE104.out) | exact HB.out))⟩)
       ·skip
        rintro ⟨gb103, gb104⟩ w80 ⟨hS_, h0_, h1_, h2_, h3_, h4_, h5_, h6_, h7_, h8_, h9_, h10_, h11_, h12_, h13_⟩
        have n0_ : Aside0 (w80.heap[gb101]? = some (.cells #[.int .i64 a1_0, .int .i64 a1_1, .int .i64 a1_2] 23 (0, 0))) := ⟨h0_⟩
        have n1_ : Aside0 (w80.heap[gb103]? = some (.cells #[.int .i32 0, .int .i64 0, .int .i64 0, .int .i64 0, .int .i64 0] 25 (0, 0))) := ⟨h1_⟩
        have n2_ : Aside0 (w80.heap[gb104]? = some (.cells #[.int .i32 0, .int .i64 0, .int .i64 0, .int .i64 0, .int .i64 0] 25 (0, 0))) := ⟨h2_⟩
        have n3_ : Aside0 (w.heap.size ≤ gb103) := ⟨h3_⟩
        have n4_ : Aside0 (w.heap.size ≤ gb103) := ⟨h4_⟩
        have n5_ : Aside0 (gb101 ≠ gb103) := ⟨h5_⟩
        have n6_ : Aside0 (gb103 ≠ gb101) := ⟨h6_⟩
        have n7_ : Aside0 (gb104 ≠ gb103) := ⟨h7_⟩
        have n8_ : Aside0 (gb103 ≠ gb104) := ⟨h8_⟩
        have n9_ : Aside0 (w.heap.size ≤ gb104) := ⟨h9_⟩
        have n10_ : Aside0 (w.heap.size ≤ gb104) := ⟨h10_⟩
        have n11_ : Aside0 (gb101 ≠ gb104) := ⟨h11_⟩
        have n12_ : Aside0 (gb104 ≠ gb101) := ⟨h12_⟩
        have n13_ : Aside0 (Below w.heap.size w w80) := ⟨h13_⟩
        clear BK101
        clear HB
        clear h0_ h1_ h2_ h3_ h4_ h5_ h6_ h7_ h8_ h9_ h10_ h11_ h12_ h13_
        have BK101 := n0_
        have BK103 := n1_
        have BK104 := n2_
        have GW103 := n3_
        have GE103 := n4_
        have NB101_103 := n5_
        have NB103_101 := n6_
        have NB104_103 := n7_
        have NB103_104 := n8_
        have GW104 := n9_
        have GE104 := n10_
        have NB101_104 := n11_
        have NB104_101 := n12_
        have HB := n13_
        clear n0_ n1_ n2_ n3_ n4_ n5_ n6_ n7_ n8_ n9_ n10_ n11_ n12_ n13_
        have hHeld : w80.cell? ⟨gb101, 0, none⟩ = some (.int .i64 a1_0) ∧ w80.cell? ⟨gb101, 1, none⟩ = some (.int .i64 a1_1) ∧ w80.cell? ⟨gb101, 2, none⟩ = some (.int .i64 a1_2) := hS_
        refine norm_ (a' := ?_) ?_ ?_
        rotate_left
        ·simp only [putAll, Act.put, List.setIfInBounds_toArray, List.set_cons_zero, List.set_cons_succ]
         rfl
        refine one_ (i := 10) (N := some 7) #[true, true, true, true, true, true, true, true, true, true, true, false, false, false] rfl rfl (one_of HT_.out (by kernel_rfl)) (by decide) (fun K hK => ?_)
        refine box_step ?hg (N := 7) ?hd (cs := #[.int .i32 0, .int .i64 0, .int .i64 0, .int .i64 0, .int .i64 0]) (t := 25) ?hr ?_; (case hd => rfl); (case hg => rfl); (case hr => first | (go_simp; done) | (go_simp; rfl))
        intro gb105 hg w81 hbox hb
        have n0_ := Aside0.mk (blk_below (g := gb101) (o := .cells #[.int .i64 a1_0, .int .i64 a1_1, .int .i64 a1_2] 23 (0, 0)) (by (with_reducible repeat (first | refine blk_drewN ?_ _ | refine blk_drew ?_ | refine blk_alloc ?_ _)); exact BK101.out) hb)
        have n1_ := Aside0.mk (blk_below (g := gb103) (o := .cells #[.int .i32 0, .int .i64 0, .int .i64 0, .int .i64 0, .int .i64 0] 25 (0, 0)) (by (with_reducible repeat (first | refine blk_drewN ?_ _ | refine blk_drew ?_ | refine blk_alloc ?_ _)); exact BK103.out) hb)
        have n2_ := Aside0.mk (blk_below (g := gb104) (o := .cells #[.int .i32 0, .int .i64 0, .int .i64 0, .int .i64 0, .int .i64 0] 25 (0, 0)) (by (with_reducible repeat (first | refine blk_drewN ?_ _ | refine blk_drew ?_ | refine blk_alloc ?_ _)); exact BK104.out) hb)
        have n3_ := Aside0.mk (below_step (by repeat (first | (with_reducible first | exact HB.out | apply below_alloc | apply pw_below_drewN | apply below_drew1 | refine below_set ?_ GE101.out | refine below_set ?_ GE103.out | refine below_set ?_ GE104.out) | exact HB.out)) hb)
        have n4_ := Aside0.mk (hbox)
        have n5_ := Aside0.mk ((by rw [hg]; exact (below_size (by repeat (first | (with_reducible first | exact HB.out | apply below_alloc | apply pw_below_drewN | apply below_drew1 | refine below_set ?_ GE101.out | refine below_set ?_ GE103.out | refine below_set ?_ GE104.out) | exact HB.out))) : w.heap.size ≤ gb105))
        have n6_ := Aside0.mk ((by rw [hg]; exact (below_size (by repeat (first | (with_reducible first | exact HB.out | apply below_alloc | apply pw_below_drewN | apply below_drew1 | refine below_set ?_ GE101.out | refine below_set ?_ GE103.out | refine below_set ?_ GE104.out) | exact HB.out))) : w.heap.size ≤ gb105))
        have n7_ := Aside0.mk ((by rw [hg]; exact Nat.ne_of_lt (blk_lt (g := gb101) (o := .cells #[.int .i64 a1_0, .int .i64 a1_1, .int .i64 a1_2] 23 (0, 0)) (by (with_reducible repeat (first | refine blk_drewN ?_ _ | refine blk_drew ?_ | refine blk_alloc ?_ _)); exact BK101.out)) : gb101 ≠ gb105))
        have n8_ := Aside0.mk ((by rw [hg]; exact Nat.ne_of_gt (blk_lt (g := gb101) (o := .cells #[.int .i64 a1_0, .int .i64 a1_1, .int .i64 a1_2] 23 (0, 0)) (by (with_reducible repeat (first | refine blk_drewN ?_ _ | refine blk_drew ?_ | refine blk_alloc ?_ _)); exact BK101.out)) : gb105 ≠ gb101))
        have n9_ := Aside0.mk ((by rw [hg]; exact Nat.ne_of_lt (blk_lt (g := gb103) (o := .cells #[.int .i32 0, .int .i64 0, .int .i64 0, .int .i64 0, .int .i64 0] 25 (0, 0)) (by (with_reducible repeat (first | refine blk_drewN ?_ _ | refine blk_drew ?_ | refine blk_alloc ?_ _)); exact BK103.out)) : gb103 ≠ gb105))
        have n10_ := Aside0.mk ((by rw [hg]; exact Nat.ne_of_gt (blk_lt (g := gb103) (o := .cells #[.int .i32 0, .int .i64 0, .int .i64 0, .int .i64 0, .int .i64 0] 25 (0, 0)) (by (with_reducible repeat (first | refine blk_drewN ?_ _ | refine blk_drew ?_ | refine blk_alloc ?_ _)); exact BK103.out)) : gb105 ≠ gb103))
        have n11_ := Aside0.mk ((by rw [hg]; exact Nat.ne_of_lt (blk_lt (g := gb104) (o := .cells #[.int .i32 0, .int .i64 0, .int .i64 0, .int .i64 0, .int .i64 0] 25 (0, 0)) (by (with_reducible repeat (first | refine blk_drewN ?_ _ | refine blk_drew ?_ | refine blk_alloc ?_ _)); exact BK104.out)) : gb104 ≠ gb105))
        have n12_ := Aside0.mk ((by rw [hg]; exact Nat.ne_of_gt (blk_lt (g := gb104) (o := .cells #[.int .i32 0, .int .i64 0, .int .i64 0, .int .i64 0, .int .i64 0] 25 (0, 0)) (by (with_reducible repeat (first | refine blk_drewN ?_ _ | refine blk_drew ?_ | refine blk_alloc ?_ _)); exact BK104.out)) : gb105 ≠ gb104))
        clear BK101
        clear BK103
        clear BK104
        clear HB
        have BK101 := n0_
        have BK103 := n1_
        have BK104 := n2_
        have HB := n3_
        have BK105 := n4_
        have GW105 := n5_
        have GE105 := n6_
        have NB101_105 := n7_
        have NB105_101 := n8_
        have NB103_105 := n9_
        have NB105_103 := n10_
        have NB104_105 := n11_
        have NB105_104 := n12_
        clear n0_ n1_ n2_ n3_ n4_ n5_ n6_ n7_ n8_ n9_ n10_ n11_ n12_
        clear hb hbox hg
        refine hK.out _ _ ⟨(blk_cell BK101.out 0).trans rfl, (blk_cell BK101.out 1).trans rfl, (blk_cell BK101.out 2).trans rfl⟩ (fun hHeld => ?_)
        clear hK K
        refine norm_ (a' := ?_) ?_ ?_
        rotate_left
        ·show Act.put _ (some 7) _ = _
         simp only [Act.put, List.setIfInBounds_toArray, List.set_cons_zero, List.set_cons_succ, i64_w, i32_w]
         rfl
        exact norm_ (by first | (simp only [putAll, Act.put, List.setIfInBounds_toArray, List.set_cons_zero, List.set_cons_succ]; done) | (simp only [putAll, Act.put, List.setIfInBounds_toArray, List.set_cons_zero, List.set_cons_succ]; rfl)) (hJ8_9_10 (gb103, gb104, gb105) _ ⟨hHeld, (by (with_reducible repeat (first | refine blk_drewN ?_ _ | refine blk_drew ?_ | refine blk_alloc ?_ _)); exact BK101.out), (by (with_reducible repeat (first | refine blk_drewN ?_ _ | refine blk_drew ?_ | refine blk_alloc ?_ _)); exact BK103.out), (by (with_reducible repeat (first | refine blk_drewN ?_ _ | refine blk_drew ?_ | refine blk_alloc ?_ _)); exact BK104.out), (by (with_reducible repeat (first | refine blk_drewN ?_ _ | refine blk_drew ?_ | refine blk_alloc ?_ _)); exact BK105.out), GW103.out, GE103.out, NB101_103.out, NB103_101.out, NB104_103.out, NB103_104.out, NB105_103.out, NB103_105.out, GW104.out, GE104.out, NB101_104.out, NB104_101.out, NB105_104.out, NB104_105.out, GW105.out, GE105.out, NB101_105.out, NB105_101.out, (by repeat (first | (with_reducible first | exact HB.out | apply below_alloc | apply pw_below_drewN | apply below_drew1 | refine below_set ?_ GE101.out | refine below_set ?_ GE103.out | refine below_set ?_ GE104.out | refine below_set ?_ GE105.out) | exact HB.out))⟩)
      rintro ⟨gb103, gb104, gb105⟩ w81 ⟨hS_, h0_, h1_, h2_, h3_, h4_, h5_, h6_, h7_, h8_, h9_, h10_, h11_, h12_, h13_, h14_, h15_, h16_, h17_, h18_, h19_, h20_, h21_, h22_⟩
      have n0_ : Aside0 (w81.heap[gb101]? = some (.cells #[.int .i64 a1_0, .int .i64 a1_1, .int .i64 a1_2] 23 (0, 0))) := ⟨h0_⟩
      have n1_ : Aside0 (w81.heap[gb103]? = some (.cells #[.int .i32 0, .int .i64 0, .int .i64 0, .int .i64 0, .int .i64 0] 25 (0, 0))) := ⟨h1_⟩
      have n2_ : Aside0 (w81.heap[gb104]? = some (.cells #[.int .i32 0, .int .i64 0, .int .i64 0, .int .i64 0, .int .i64 0] 25 (0, 0))) := ⟨h2_⟩
      have n3_ : Aside0 (w81.heap[gb105]? = some (.cells #[.int .i32 0, .int .i64 0, .int .i64 0, .int .i64 0, .int .i64 0] 25 (0, 0))) := ⟨h3_⟩
      have n4_ : Aside0 (w.heap.size ≤ gb103) := ⟨h4_⟩
      have n5_ : Aside0 (w.heap.size ≤ gb103) := ⟨h5_⟩
      have n6_ : Aside0 (gb101 ≠ gb103) := ⟨h6_⟩
      have n7_ : Aside0 (gb103 ≠ gb101) := ⟨h7_⟩
      have n8_ : Aside0 (gb104 ≠ gb103) := ⟨h8_⟩
      have n9_ : Aside0 (gb103 ≠ gb104) := ⟨h9_⟩
      have n10_ : Aside0 (gb105 ≠ gb103) := ⟨h10_⟩
      have n11_ : Aside0 (gb103 ≠ gb105) := ⟨h11_⟩
      have n12_ : Aside0 (w.heap.size ≤ gb104) := ⟨h12_⟩
      have n13_ : Aside0 (w.heap.size ≤ gb104) := ⟨h13_⟩
      have n14_ : Aside0 (gb101 ≠ gb104) := ⟨h14_⟩
      have n15_ : Aside0 (gb104 ≠ gb101) := ⟨h15_⟩
      have n16_ : Aside0 (gb105 ≠ gb104) := ⟨h16_⟩
      have n17_ : Aside0 (gb104 ≠ gb105) := ⟨h17_⟩
      have n18_ : Aside0 (w.heap.size ≤ gb105) := ⟨h18_⟩
      have n19_ : Aside0 (w.heap.size ≤ gb105) := ⟨h19_⟩
      have n20_ : Aside0 (gb101 ≠ gb105) := ⟨h20_⟩
      have n21_ : Aside0 (gb105 ≠ gb101) := ⟨h21_⟩
      have n22_ : Aside0 (Below w.heap.size w w81) := ⟨h22_⟩
      clear BK101
      clear HB
      clear h0_ h1_ h2_ h3_ h4_ h5_ h6_ h7_ h8_ h9_ h10_ h11_ h12_ h13_ h14_ h15_ h16_ h17_ h18_ h19_ h20_ h21_ h22_
      have BK101 := n0_
      have BK103 := n1_
      have BK104 := n2_
      have BK105 := n3_
      have GW103 := n4_
      have GE103 := n5_
      have NB101_103 := n6_
      have NB103_101 := n7_
      have NB104_103 := n8_
      have NB103_104 := n9_
      have NB105_103 := n10_
      have NB103_105 := n11_
      have GW104 := n12_
      have GE104 := n13_
      have NB101_104 := n14_
      have NB104_101 := n15_
      have NB105_104 := n16_
      have NB104_105 := n17_
      have GW105 := n18_
      have GE105 := n19_
      have NB101_105 := n20_
      have NB105_101 := n21_
      have HB := n22_
      clear n0_ n1_ n2_ n3_ n4_ n5_ n6_ n7_ n8_ n9_ n10_ n11_ n12_ n13_ n14_ n15_ n16_ n17_ n18_ n19_ n20_ n21_ n22_
      have hHeld : w81.cell? ⟨gb101, 0, none⟩ = some (.int .i64 a1_0) ∧ w81.cell? ⟨gb101, 1, none⟩ = some (.int .i64 a1_1) ∧ w81.cell? ⟨gb101, 2, none⟩ = some (.int .i64 a1_2) := hS_
      refine norm_ (a' := ?_) ?_ ?_
      rotate_left
      ·simp only [putAll, Act.put, List.setIfInBounds_toArray, List.set_cons_zero, List.set_cons_succ]
       rfl
      refine one_ (i := 11) (N := none) #[true, true, true, true, true, true, true, true, true, true, true, true, false, false] rfl rfl (one_of HT_.out (by kernel_rfl)) (by decide) (fun K hK => ?_)
      have hs82 : w81.cell? ⟨gb103, 0, none⟩ = some (.int .i32 0) := (blk_cell BK103.out 0).trans rfl
      have hfs82 := blk_frozen BK103.out 0
      have hns82_0 := NB101_103.out
      have hns82_2 := NB104_103.out
      have hns82_3 := NB105_103.out
      have hms82_0 := NB103_101.out
      have hms82_2 := NB103_104.out
      have hms82_3 := NB103_105.out
      have hs83 : w81.cell? ⟨gb103, 1, none⟩ = some (.int .i64 0) := (blk_cell BK103.out 1).trans rfl
      have hfs83 := blk_frozen BK103.out 1
      have hns83_0 := NB101_103.out
      have hns83_2 := NB104_103.out
      have hns83_3 := NB105_103.out
      have hms83_0 := NB103_101.out
      have hms83_2 := NB103_104.out
      have hms83_3 := NB103_105.out
      have hs84 : w81.cell? ⟨gb103, 2, none⟩ = some (.int .i64 0) := (blk_cell BK103.out 2).trans rfl
      have hfs84 := blk_frozen BK103.out 2
      have hns84_0 := NB101_103.out
      have hns84_2 := NB104_103.out
      have hns84_3 := NB105_103.out
      have hms84_0 := NB103_101.out
      have hms84_2 := NB103_104.out
      have hms84_3 := NB103_105.out
      have hs85 : w81.cell? ⟨gb103, 3, none⟩ = some (.int .i64 0) := (blk_cell BK103.out 3).trans rfl
      have hfs85 := blk_frozen BK103.out 3
      have hns85_0 := NB101_103.out
      have hns85_2 := NB104_103.out
      have hns85_3 := NB105_103.out
      have hms85_0 := NB103_101.out
      have hms85_2 := NB103_104.out
      have hms85_3 := NB103_105.out
      have hs86 : w81.cell? ⟨gb103, 4, none⟩ = some (.int .i64 0) := (blk_cell BK103.out 4).trans rfl
      have hfs86 := blk_frozen BK103.out 4
      have hns86_0 := NB101_103.out
      have hns86_2 := NB104_103.out
      have hns86_3 := NB105_103.out
      have hms86_0 := NB103_101.out
      have hms86_2 := NB103_104.out
      have hms86_3 := NB103_105.out
      refine skip_ (w1 := ?_) (by rfl) rfl ?_ ?_
      rotate_left
      ·go_simp
       rfl
      refine hK.out _ _ ⟨((cell_far (p := ⟨gb103, _, none⟩) NB101_103.out _).trans (((cell_far (p := ⟨gb103, _, none⟩) NB101_103.out _).trans (((cell_far (p := ⟨gb103, _, none⟩) NB101_103.out _).trans (((cell_far (p := ⟨gb103, _, none⟩) NB101_103.out _).trans (((cell_far (p := ⟨gb103, _, none⟩) NB101_103.out _).trans (hHeld.1)))))))))), ((cell_far (p := ⟨gb103, _, none⟩) NB101_103.out _).trans (((cell_far (p := ⟨gb103, _, none⟩) NB101_103.out _).trans (((cell_far (p := ⟨gb103, _, none⟩) NB101_103.out _).trans (((cell_far (p := ⟨gb103, _, none⟩) NB101_103.out _).trans (((cell_far (p := ⟨gb103, _, none⟩) NB101_103.out _).trans (hHeld.2.1)))))))))), ((cell_far (p := ⟨gb103, _, none⟩) NB101_103.out _).trans (((cell_far (p := ⟨gb103, _, none⟩) NB101_103.out _).trans (((cell_far (p := ⟨gb103, _, none⟩) NB101_103.out _).trans (((cell_far (p := ⟨gb103, _, none⟩) NB101_103.out _).trans (((cell_far (p := ⟨gb103, _, none⟩) NB101_103.out _).trans (hHeld.2.2))))))))))⟩ (fun hHeld => ?_)
      clear hK K
      have n101_ := Aside0.mk (f5_far BK101.out NB101_103.out (.int .i32 a0) (.int .i64 a1_0) (.int .i64 a1_1) (.int .i64 a1_2) (.int .i64 0))
      have n103_ := Aside0.mk (f5_at BK103.out (.int .i32 a0) (.int .i64 a1_0) (.int .i64 a1_1) (.int .i64 a1_2) (.int .i64 0))
      have n104_ := Aside0.mk (f5_far BK104.out NB104_103.out (.int .i32 a0) (.int .i64 a1_0) (.int .i64 a1_1) (.int .i64 a1_2) (.int .i64 0))
      have n105_ := Aside0.mk (f5_far BK105.out NB105_103.out (.int .i32 a0) (.int .i64 a1_0) (.int .i64 a1_1) (.int .i64 a1_2) (.int .i64 0))
      have nB_ := Aside0.mk (f5_below HB.out GE103.out (.int .i32 a0) (.int .i64 a1_0) (.int .i64 a1_1) (.int .i64 a1_2) (.int .i64 0))
      clear BK101 BK103 BK104 BK105 HB hs82 hfs82 hns82_0 hns82_2 hns82_3 hms82_0 hms82_2 hms82_3 hs83 hfs83 hns83_0 hns83_2 hns83_3 hms83_0 hms83_2 hms83_3 hs84 hfs84 hns84_0 hns84_2 hns84_3 hms84_0 hms84_2 hms84_3 hs85 hfs85 hns85_0 hns85_2 hns85_3 hms85_0 hms85_2 hms85_3 hs86 hfs86 hns86_0 hns86_2 hns86_3 hms86_0 hms86_2 hms86_3
      generalize (((((w81.setCell ⟨gb103, 0, none⟩ (.int .i32 a0)).setCell ⟨gb103, 1, none⟩ (.int .i64 a1_0)).setCell ⟨gb103, 2, none⟩ (.int .i64 a1_1)).setCell ⟨gb103, 3, none⟩ (.int .i64 a1_2)).setCell ⟨gb103, 4, none⟩ (.int .i64 0)) = wf0 at n101_ n103_ n104_ n105_ nB_ hHeld ⊢
      have BK101 := n101_
      have BK103 := n103_
      have BK104 := n104_
      have BK105 := n105_
      have HB := nB_
      clear n101_ n103_ n104_ n105_ nB_
      refine one_ (i := 12) (N := none) #[true, true, true, true, true, true, true, true, true, true, true, true, true, false] rfl rfl (one_of HT_.out (by kernel_rfl)) (by decide) (fun K hK => ?_)
      have hs87 : wf0.cell? ⟨gb104, 0, none⟩ = some (.int .i32 0) := (blk_cell BK104.out 0).trans rfl
      have hfs87 := blk_frozen BK104.out 0
      have hns87_0 := NB101_104.out
      have hns87_1 := NB103_104.out
      have hns87_3 := NB105_104.out
      have hms87_0 := NB104_101.out
      have hms87_1 := NB104_103.out
      have hms87_3 := NB104_105.out
      have hs88 : wf0.cell? ⟨gb104, 1, none⟩ = some (.int .i64 0) := (blk_cell BK104.out 1).trans rfl
      have hfs88 := blk_frozen BK104.out 1
      have hns88_0 := NB101_104.out
      have hns88_1 := NB103_104.out
      have hns88_3 := NB105_104.out
      have hms88_0 := NB104_101.out
      have hms88_1 := NB104_103.out
      have hms88_3 := NB104_105.out
      have hs89 : wf0.cell? ⟨gb104, 2, none⟩ = some (.int .i64 0) := (blk_cell BK104.out 2).trans rfl
      have hfs89 := blk_frozen BK104.out 2
      have hns89_0 := NB101_104.out
      have hns89_1 := NB103_104.out
      have hns89_3 := NB105_104.out
      have hms89_0 := NB104_101.out
      have hms89_1 := NB104_103.out
      have hms89_3 := NB104_105.out
      have hs90 : wf0.cell? ⟨gb104, 3, none⟩ = some (.int .i64 0) := (blk_cell BK104.out 3).trans rfl
      have hfs90 := blk_frozen BK104.out 3
      have hns90_0 := NB101_104.out
      have hns90_1 := NB103_104.out
      have hns90_3 := NB105_104.out
      have hms90_0 := NB104_101.out
      have hms90_1 := NB104_103.out
      have hms90_3 := NB104_105.out
      have hs91 : wf0.cell? ⟨gb104, 4, none⟩ = some (.int .i64 0) := (blk_cell BK104.out 4).trans rfl
      have hfs91 := blk_frozen BK104.out 4
      have hns91_0 := NB101_104.out
      have hns91_1 := NB103_104.out
      have hns91_3 := NB105_104.out
      have hms91_0 := NB104_101.out
      have hms91_1 := NB104_103.out
      have hms91_3 := NB104_105.out
      refine skip_ (w1 := ?_) (by rfl) rfl ?_ ?_
      rotate_left
      ·go_simp
       rfl
      refine hK.out _ _ ⟨((cell_far (p := ⟨gb104, _, none⟩) NB101_104.out _).trans (((cell_far (p := ⟨gb104, _, none⟩) NB101_104.out _).trans (((cell_far (p := ⟨gb104, _, none⟩) NB101_104.out _).trans (((cell_far (p := ⟨gb104, _, none⟩) NB101_104.out _).trans (((cell_far (p := ⟨gb104, _, none⟩) NB101_104.out _).trans (hHeld.1)))))))))), ((cell_far (p := ⟨gb104, _, none⟩) NB101_104.out _).trans (((cell_far (p := ⟨gb104, _, none⟩) NB101_104.out _).trans (((cell_far (p := ⟨gb104, _, none⟩) NB101_104.out _).trans (((cell_far (p := ⟨gb104, _, none⟩) NB101_104.out _).trans (((cell_far (p := ⟨gb104, _, none⟩) NB101_104.out _).trans (hHeld.2.1)))))))))), ((cell_far (p := ⟨gb104, _, none⟩) NB101_104.out _).trans (((cell_far (p := ⟨gb104, _, none⟩) NB101_104.out _).trans (((cell_far (p := ⟨gb104, _, none⟩) NB101_104.out _).trans (((cell_far (p := ⟨gb104, _, none⟩) NB101_104.out _).trans (((cell_far (p := ⟨gb104, _, none⟩) NB101_104.out _).trans (hHeld.2.2))))))))))⟩ (fun hHeld => ?_)
      clear hK K
      have n101_ := Aside0.mk (f5_far BK101.out NB101_104.out (.int .i32 a0) (.int .i64 a1_0) (.int .i64 a1_1) (.int .i64 a1_2) (.int .i64 1))
      have n103_ := Aside0.mk (f5_far BK103.out NB103_104.out (.int .i32 a0) (.int .i64 a1_0) (.int .i64 a1_1) (.int .i64 a1_2) (.int .i64 1))
      have n104_ := Aside0.mk (f5_at BK104.out (.int .i32 a0) (.int .i64 a1_0) (.int .i64 a1_1) (.int .i64 a1_2) (.int .i64 1))
      have n105_ := Aside0.mk (f5_far BK105.out NB105_104.out (.int .i32 a0) (.int .i64 a1_0) (.int .i64 a1_1) (.int .i64 a1_2) (.int .i64 1))
      have nB_ := Aside0.mk (f5_below HB.out GE104.out (.int .i32 a0) (.int .i64 a1_0) (.int .i64 a1_1) (.int .i64 a1_2) (.int .i64 1))
      clear BK101 BK103 BK104 BK105 HB hs87 hfs87 hns87_0 hns87_1 hns87_3 hms87_0 hms87_1 hms87_3 hs88 hfs88 hns88_0 hns88_1 hns88_3 hms88_0 hms88_1 hms88_3 hs89 hfs89 hns89_0 hns89_1 hns89_3 hms89_0 hms89_1 hms89_3 hs90 hfs90 hns90_0 hns90_1 hns90_3 hms90_0 hms90_1 hms90_3 hs91 hfs91 hns91_0 hns91_1 hns91_3 hms91_0 hms91_1 hms91_3
      generalize (((((wf0.setCell ⟨gb104, 0, none⟩ (.int .i32 a0)).setCell ⟨gb104, 1, none⟩ (.int .i64 a1_0)).setCell ⟨gb104, 2, none⟩ (.int .i64 a1_1)).setCell ⟨gb104, 3, none⟩ (.int .i64 a1_2)).setCell ⟨gb104, 4, none⟩ (.int .i64 1)) = wf1 at n101_ n103_ n104_ n105_ nB_ hHeld ⊢
      have BK101 := n101_
      have BK103 := n103_
      have BK104 := n104_
      have BK105 := n105_
      have HB := nB_
      clear n101_ n103_ n104_ n105_ nB_
      refine one_ (i := 13) (N := none) #[true, true, true, true, true, true, true, true, true, true, true, true, true, true] rfl rfl (one_of HT_.out (by kernel_rfl)) (by decide) (fun K hK => ?_)
      have hs92 : wf1.cell? ⟨gb105, 0, none⟩ = some (.int .i32 0) := (blk_cell BK105.out 0).trans rfl
      have hfs92 := blk_frozen BK105.out 0
      have hns92_0 := NB101_105.out
      have hns92_1 := NB103_105.out
      have hns92_2 := NB104_105.out
      have hms92_0 := NB105_101.out
      have hms92_1 := NB105_103.out
      have hms92_2 := NB105_104.out
      have hs93 : wf1.cell? ⟨gb105, 1, none⟩ = some (.int .i64 0) := (blk_cell BK105.out 1).trans rfl
      have hfs93 := blk_frozen BK105.out 1
      have hns93_0 := NB101_105.out
      have hns93_1 := NB103_105.out
      have hns93_2 := NB104_105.out
      have hms93_0 := NB105_101.out
      have hms93_1 := NB105_103.out
      have hms93_2 := NB105_104.out
      have hs94 : wf1.cell? ⟨gb105, 2, none⟩ = some (.int .i64 0) := (blk_cell BK105.out 2).trans rfl
      have hfs94 := blk_frozen BK105.out 2
      have hns94_0 := NB101_105.out
      have hns94_1 := NB103_105.out
      have hns94_2 := NB104_105.out
      have hms94_0 := NB105_101.out
      have hms94_1 := NB105_103.out
      have hms94_2 := NB105_104.out
      have hs95 : wf1.cell? ⟨gb105, 3, none⟩ = some (.int .i64 0) := (blk_cell BK105.out 3).trans rfl
      have hfs95 := blk_frozen BK105.out 3
      have hns95_0 := NB101_105.out
      have hns95_1 := NB103_105.out
      have hns95_2 := NB104_105.out
      have hms95_0 := NB105_101.out
      have hms95_1 := NB105_103.out
      have hms95_2 := NB105_104.out
      have hs96 : wf1.cell? ⟨gb105, 4, none⟩ = some (.int .i64 0) := (blk_cell BK105.out 4).trans rfl
      have hfs96 := blk_frozen BK105.out 4
      have hns96_0 := NB101_105.out
      have hns96_1 := NB103_105.out
      have hns96_2 := NB104_105.out
      have hms96_0 := NB105_101.out
      have hms96_1 := NB105_103.out
      have hms96_2 := NB105_104.out
      refine skip_ (w1 := ?_) (by rfl) rfl ?_ ?_
      rotate_left
      ·go_simp
       rfl
      refine hK.out _ _ ⟨((cell_far (p := ⟨gb105, _, none⟩) NB101_105.out _).trans (((cell_far (p := ⟨gb105, _, none⟩) NB101_105.out _).trans (((cell_far (p := ⟨gb105, _, none⟩) NB101_105.out _).trans (((cell_far (p := ⟨gb105, _, none⟩) NB101_105.out _).trans (((cell_far (p := ⟨gb105, _, none⟩) NB101_105.out _).trans (hHeld.1)))))))))), ((cell_far (p := ⟨gb105, _, none⟩) NB101_105.out _).trans (((cell_far (p := ⟨gb105, _, none⟩) NB101_105.out _).trans (((cell_far (p := ⟨gb105, _, none⟩) NB101_105.out _).trans (((cell_far (p := ⟨gb105, _, none⟩) NB101_105.out _).trans (((cell_far (p := ⟨gb105, _, none⟩) NB101_105.out _).trans (hHeld.2.1)))))))))), ((cell_far (p := ⟨gb105, _, none⟩) NB101_105.out _).trans (((cell_far (p := ⟨gb105, _, none⟩) NB101_105.out _).trans (((cell_far (p := ⟨gb105, _, none⟩) NB101_105.out _).trans (((cell_far (p := ⟨gb105, _, none⟩) NB101_105.out _).trans (((cell_far (p := ⟨gb105, _, none⟩) NB101_105.out _).trans (hHeld.2.2))))))))))⟩ (fun hHeld => ?_)
      clear hK K
      have n101_ := Aside0.mk (f5_far BK101.out NB101_105.out (.int .i32 0) (.int .i64 a1_0) (.int .i64 a1_1) (.int .i64 a1_2) (.int .i64 2))
      have n103_ := Aside0.mk (f5_far BK103.out NB103_105.out (.int .i32 0) (.int .i64 a1_0) (.int .i64 a1_1) (.int .i64 a1_2) (.int .i64 2))
      have n104_ := Aside0.mk (f5_far BK104.out NB104_105.out (.int .i32 0) (.int .i64 a1_0) (.int .i64 a1_1) (.int .i64 a1_2) (.int .i64 2))
      have n105_ := Aside0.mk (f5_at BK105.out (.int .i32 0) (.int .i64 a1_0) (.int .i64 a1_1) (.int .i64 a1_2) (.int .i64 2))
      have nB_ := Aside0.mk (f5_below HB.out GE105.out (.int .i32 0) (.int .i64 a1_0) (.int .i64 a1_1) (.int .i64 a1_2) (.int .i64 2))
      clear BK101 BK103 BK104 BK105 HB hs92 hfs92 hns92_0 hns92_1 hns92_2 hms92_0 hms92_1 hms92_2 hs93 hfs93 hns93_0 hns93_1 hns93_2 hms93_0 hms93_1 hms93_2 hs94 hfs94 hns94_0 hns94_1 hns94_2 hms94_0 hms94_1 hms94_2 hs95 hfs95 hns95_0 hns95_1 hns95_2 hms95_0 hms95_1 hms95_2 hs96 hfs96 hns96_0 hns96_1 hns96_2 hms96_0 hms96_1 hms96_2
      generalize (((((wf1.setCell ⟨gb105, 0, none⟩ (.int .i32 0)).setCell ⟨gb105, 1, none⟩ (.int .i64 a1_0)).setCell ⟨gb105, 2, none⟩ (.int .i64 a1_1)).setCell ⟨gb105, 3, none⟩ (.int .i64 a1_2)).setCell ⟨gb105, 4, none⟩ (.int .i64 2)) = wf2 at n101_ n103_ n104_ n105_ nB_ hHeld ⊢
      have BK101 := n101_
      have BK103 := n103_
      have BK104 := n104_
      have BK105 := n105_
      have HB := nB_
      clear n101_ n103_ n104_ n105_ nB_
      refine done_ (done_of HT_.out (by kernel_rfl)) ?_
      have hnb97 := NB101_103.out
      have hnc97 := NB103_101.out
      have hnb98 := NB101_104.out
      have hnc98 := NB104_101.out
      have hnb99 := NB101_105.out
      have hnc99 := NB105_101.out
      have hcz100_0 : wf2.cell? ⟨gb101, 0, none⟩ = some (.int .i64 a1_0) := (blk_cell BK101.out 0).trans rfl
      have hcz100_1 : wf2.cell? ⟨gb101, 1, none⟩ = some (.int .i64 a1_1) := (blk_cell BK101.out 1).trans rfl
      have hcz100_2 : wf2.cell? ⟨gb101, 2, none⟩ = some (.int .i64 a1_2) := (blk_cell BK101.out 2).trans rfl
      have hfz100_0 := blk_frozen BK101.out 0
      have hfz100_1 := blk_frozen BK101.out 1
      have hfz100_2 := blk_frozen BK101.out 2
      try go_wp2_with (first | ((with_reducible refine gate_callee (f := 9) rfl ?_); refine goesL_ (some 21) rfl rfl Tryd.func9 (by kernel_rfl) rfl #[.agg #[.int .i64 a1_0, .int .i64 a1_1, .int .i64 a1_2]] rfl (by (try simp only [List.map_toArray, List.map_cons, List.map_nil]); first | done | rfl | (simp only [List.length_drop, List.length_take]; rfl)) ?_; (with_reducible refine (cell_Blank.calls a1_0 a1_1 a1_2 t106 t107 t108 t109 t110 _ A5.out).mono ?_); rintro e w101 ⟨rfl, hb⟩; refine ⟨_, rfl, ?_⟩; have n0_ := Aside0.mk (blk_below (g := gb101) (o := .cells #[.int .i64 a1_0, .int .i64 a1_1, .int .i64 a1_2] 23 (0, 0)) (by (with_reducible repeat (first | refine blk_drewN ?_ _ | refine blk_drew ?_ | refine blk_alloc ?_ _)); exact BK101.out) hb); have n1_ := Aside0.mk (blk_below (g := gb103) (o := .cells #[.int .i32 a0, .int .i64 a1_0, .int .i64 a1_1, .int .i64 a1_2, .int .i64 0] 25 (0, 0)) (by (with_reducible repeat (first | refine blk_drewN ?_ _ | refine blk_drew ?_ | refine blk_alloc ?_ _)); exact BK103.out) hb); have n2_ := Aside0.mk (blk_below (g := gb104) (o := .cells #[.int .i32 a0, .int .i64 a1_0, .int .i64 a1_1, .int .i64 a1_2, .int .i64 1] 25 (0, 0)) (by (with_reducible repeat (first | refine blk_drewN ?_ _ | refine blk_drew ?_ | refine blk_alloc ?_ _)); exact BK104.out) hb); have n3_ := Aside0.mk (blk_below (g := gb105) (o := .cells #[.int .i32 0, .int .i64 a1_0, .int .i64 a1_1, .int .i64 a1_2, .int .i64 2] 25 (0, 0)) (by (with_reducible repeat (first | refine blk_drewN ?_ _ | refine blk_drew ?_ | refine blk_alloc ?_ _)); exact BK105.out) hb); have n4_ := Aside0.mk (below_step (by repeat (first | (with_reducible first | exact HB.out | apply below_alloc | apply pw_below_drewN | apply below_drew1 | refine below_set ?_ GE101.out | refine below_set ?_ GE103.out | refine below_set ?_ GE104.out | refine below_set ?_ GE105.out) | exact HB.out)) hb); clear BK101; clear BK103; clear BK104; clear BK105; clear HB; have BK101 := n0_; have BK103 := n1_; have BK104 := n2_; have BK105 := n3_; have HB := n4_; clear n0_ n1_ n2_ n3_ n4_; (try clear hb); (try clear hb2); (try clear hk); (try clear hi)) | ((with_reducible refine gate_dst (N := 8) rfl ?_); refine box_event ?hg (N := 8) ?hd (cs := #[.int .i32 0, .int .i64 0, .int .i64 0, .int .i64 0, .int .i64 0]) (t := 25) ?hr ?_; (case hd => rfl); (case hg => rfl); (case hr => first | (go_simp; done) | (go_simp; rfl)); intro gb111 hg w102 hbox hb; have n0_ := Aside0.mk (blk_below (g := gb101) (o := .cells #[.int .i64 a1_0, .int .i64 a1_1, .int .i64 a1_2] 23 (0, 0)) (by (with_reducible repeat (first | refine blk_drewN ?_ _ | refine blk_drew ?_ | refine blk_alloc ?_ _)); exact BK101.out) hb); have n1_ := Aside0.mk (blk_below (g := gb103) (o := .cells #[.int .i32 a0, .int .i64 a1_0, .int .i64 a1_1, .int .i64 a1_2, .int .i64 0] 25 (0, 0)) (by (with_reducible repeat (first | refine blk_drewN ?_ _ | refine blk_drew ?_ | refine blk_alloc ?_ _)); exact BK103.out) hb); have n2_ := Aside0.mk (blk_below (g := gb104) (o := .cells #[.int .i32 a0, .int .i64 a1_0, .int .i64 a1_1, .int .i64 a1_2, .int .i64 1] 25 (0, 0)) (by (with_reducible repeat (first | refine blk_drewN ?_ _ | refine blk_drew ?_ | refine blk_alloc ?_ _)); exact BK104.out) hb); have n3_ := Aside0.mk (blk_below (g := gb105) (o := .cells #[.int .i32 0, .int .i64 a1_0, .int .i64 a1_1, .int .i64 a1_2, .int .i64 2] 25 (0, 0)) (by (with_reducible repeat (first | refine blk_drewN ?_ _ | refine blk_drew ?_ | refine blk_alloc ?_ _)); exact BK105.out) hb); have n4_ := Aside0.mk (below_step (by repeat (first | (with_reducible first | exact HB.out | apply below_alloc | apply pw_below_drewN | apply below_drew1 | refine below_set ?_ GE101.out | refine below_set ?_ GE103.out | refine below_set ?_ GE104.out | refine below_set ?_ GE105.out) | exact HB.out)) hb); have n5_ := Aside0.mk (hbox); have n6_ := Aside0.mk ((by rw [hg]; exact (below_size (by repeat (first | (with_reducible first | exact HB.out | apply below_alloc | apply pw_below_drewN | apply below_drew1 | refine below_set ?_ GE101.out | refine below_set ?_ GE103.out | refine below_set ?_ GE104.out | refine below_set ?_ GE105.out) | exact HB.out))) : w.heap.size ≤ gb111)); have n7_ := Aside0.mk ((by rw [hg]; exact (below_size (by repeat (first | (with_reducible first | exact HB.out | apply below_alloc | apply pw_below_drewN | apply below_drew1 | refine below_set ?_ GE101.out | refine below_set ?_ GE103.out | refine below_set ?_ GE104.out | refine below_set ?_ GE105.out) | exact HB.out))) : w.heap.size ≤ gb111)); have n8_ := Aside0.mk ((by rw [hg]; exact Nat.ne_of_lt (blk_lt (g := gb101) (o := .cells #[.int .i64 a1_0, .int .i64 a1_1, .int .i64 a1_2] 23 (0, 0)) (by (with_reducible repeat (first | refine blk_drewN ?_ _ | refine blk_drew ?_ | refine blk_alloc ?_ _)); exact BK101.out)) : gb101 ≠ gb111)); have n9_ := Aside0.mk ((by rw [hg]; exact Nat.ne_of_gt (blk_lt (g := gb101) (o := .cells #[.int .i64 a1_0, .int .i64 a1_1, .int .i64 a1_2] 23 (0, 0)) (by (with_reducible repeat (first | refine blk_drewN ?_ _ | refine blk_drew ?_ | refine blk_alloc ?_ _)); exact BK101.out)) : gb111 ≠ gb101)); have n10_ := Aside0.mk ((by rw [hg]; exact Nat.ne_of_lt (blk_lt (g := gb103) (o := .cells #[.int .i32 a0, .int .i64 a1_0, .int .i64 a1_1, .int .i64 a1_2, .int .i64 0] 25 (0, 0)) (by (with_reducible repeat (first | refine blk_drewN ?_ _ | refine blk_drew ?_ | refine blk_alloc ?_ _)); exact BK103.out)) : gb103 ≠ gb111)); have n11_ := Aside0.mk ((by rw [hg]; exact Nat.ne_of_gt (blk_lt (g := gb103) (o := .cells #[.int .i32 a0, .int .i64 a1_0, .int .i64 a1_1, .int .i64 a1_2, .int .i64 0] 25 (0, 0)) (by (with_reducible repeat (first | refine blk_drewN ?_ _ | refine blk_drew ?_ | refine blk_alloc ?_ _)); exact BK103.out)) : gb111 ≠ gb103)); have n12_ := Aside0.mk ((by rw [hg]; exact Nat.ne_of_lt (blk_lt (g := gb104) (o := .cells #[.int .i32 a0, .int .i64 a1_0, .int .i64 a1_1, .int .i64 a1_2, .int .i64 1] 25 (0, 0)) (by (with_reducible repeat (first | refine blk_drewN ?_ _ | refine blk_drew ?_ | refine blk_alloc ?_ _)); exact BK104.out)) : gb104 ≠ gb111)); have n13_ := Aside0.mk ((by rw [hg]; exact Nat.ne_of_gt (blk_lt (g := gb104) (o := .cells #[.int .i32 a0, .int .i64 a1_0, .int .i64 a1_1, .int .i64 a1_2, .int .i64 1] 25 (0, 0)) (by (with_reducible repeat (first | refine blk_drewN ?_ _ | refine blk_drew ?_ | refine blk_alloc ?_ _)); exact BK104.out)) : gb111 ≠ gb104)); have n14_ := Aside0.mk ((by rw [hg]; exact Nat.ne_of_lt (blk_lt (g := gb105) (o := .cells #[.int .i32 0, .int .i64 a1_0, .int .i64 a1_1, .int .i64 a1_2, .int .i64 2] 25 (0, 0)) (by (with_reducible repeat (first | refine blk_drewN ?_ _ | refine blk_drew ?_ | refine blk_alloc ?_ _)); exact BK105.out)) : gb105 ≠ gb111)); have n15_ := Aside0.mk ((by rw [hg]; exact Nat.ne_of_gt (blk_lt (g := gb105) (o := .cells #[.int .i32 0, .int .i64 a1_0, .int .i64 a1_1, .int .i64 a1_2, .int .i64 2] 25 (0, 0)) (by (with_reducible repeat (first | refine blk_drewN ?_ _ | refine blk_drew ?_ | refine blk_alloc ?_ _)); exact BK105.out)) : gb111 ≠ gb105)); clear BK101; clear BK103; clear BK104; clear BK105; clear HB; have BK101 := n0_; have BK103 := n1_; have BK104 := n2_; have BK105 := n3_; have HB := n4_; have BK111 := n5_; have GW111 := n6_; have GE111 := n7_; have NB101_111 := n8_; have NB111_101 := n9_; have NB103_111 := n10_; have NB111_103 := n11_; have NB104_111 := n12_; have NB111_104 := n13_; have NB105_111 := n14_; have NB111_105 := n15_; clear n0_ n1_ n2_ n3_ n4_ n5_ n6_ n7_ n8_ n9_ n10_ n11_ n12_ n13_ n14_ n15_; clear hb hbox hg; have hnb103 := NB111_101.out; have hnc103 := NB101_111.out; have hnb104 := NB111_103.out; have hnc104 := NB103_111.out; have hnb105 := NB111_104.out; have hnc105 := NB104_111.out; have hnb106 := NB111_105.out; have hnc106 := NB105_111.out; have hcz107_0 : w102.cell? ⟨gb111, 0, none⟩ = some (.int .i32 0) := (blk_cell BK111.out 0).trans rfl; have hcz107_1 : w102.cell? ⟨gb111, 1, none⟩ = some (.int .i64 0) := (blk_cell BK111.out 1).trans rfl; have hcz107_2 : w102.cell? ⟨gb111, 2, none⟩ = some (.int .i64 0) := (blk_cell BK111.out 2).trans rfl; have hcz107_3 : w102.cell? ⟨gb111, 3, none⟩ = some (.int .i64 0) := (blk_cell BK111.out 3).trans rfl; have hcz107_4 : w102.cell? ⟨gb111, 4, none⟩ = some (.int .i64 0) := (blk_cell BK111.out 4).trans rfl; have hfz107_0 := blk_frozen BK111.out 0; have hfz107_1 := blk_frozen BK111.out 1; have hfz107_2 := blk_frozen BK111.out 2; have hfz107_3 := blk_frozen BK111.out 3; have hfz107_4 := blk_frozen BK111.out 4; have hcz108_0 : w102.cell? ⟨gb101, 0, none⟩ = some (.int .i64 a1_0) := (blk_cell BK101.out 0).trans rfl; have hcz108_1 : w102.cell? ⟨gb101, 1, none⟩ = some (.int .i64 a1_1) := (blk_cell BK101.out 1).trans rfl; have hcz108_2 : w102.cell? ⟨gb101, 2, none⟩ = some (.int .i64 a1_2) := (blk_cell BK101.out 2).trans rfl; have hfz108_0 := blk_frozen BK101.out 0; have hfz108_1 := blk_frozen BK101.out 1; have hfz108_2 := blk_frozen BK101.out 2) | ((with_reducible refine gate_callee (f := 11) rfl ?_); refine goesL_ (some 23) rfl rfl Tryd.func11 (by kernel_rfl) rfl #[.agg #[.int .i64 a1_0, .int .i64 a1_1, .int .i64 a1_2]] rfl (by (try simp only [List.map_toArray, List.map_cons, List.map_nil]); first | done | rfl | (simp only [List.length_drop, List.length_take]; rfl)) ?_; (with_reducible refine (cell_MayAttr.calls a1_0 a1_1 a1_2 false _ A6.out).mono ?_); rintro e w109 ⟨rfl, hb⟩; refine ⟨_, rfl, ?_⟩; have n0_ := Aside0.mk (blk_below (g := gb101) (o := .cells #[.int .i64 a1_0, .int .i64 a1_1, .int .i64 a1_2] 23 (0, 0)) (by (with_reducible repeat (first | refine blk_drewN ?_ _ | refine blk_drew ?_ | refine blk_alloc ?_ _)); refine blk_far ?_ NB101_111.out _; (with_reducible repeat (first | refine blk_drewN ?_ _ | refine blk_drew ?_ | refine blk_alloc ?_ _)); refine blk_far ?_ NB101_111.out _; (with_reducible repeat (first | refine blk_drewN ?_ _ | refine blk_drew ?_ | refine blk_alloc ?_ _)); refine blk_far ?_ NB101_111.out _; (with_reducible repeat (first | refine blk_drewN ?_ _ | refine blk_drew ?_ | refine blk_alloc ?_ _)); refine blk_far ?_ NB101_111.out _; (with_reducible repeat (first | refine blk_drewN ?_ _ | refine blk_drew ?_ | refine blk_alloc ?_ _)); refine blk_far ?_ NB101_111.out _; (with_reducible repeat (first | refine blk_drewN ?_ _ | refine blk_drew ?_ | refine blk_alloc ?_ _)); exact BK101.out) hb); have n1_ := Aside0.mk (blk_below (g := gb103) (o := .cells #[.int .i32 a0, .int .i64 a1_0, .int .i64 a1_1, .int .i64 a1_2, .int .i64 0] 25 (0, 0)) (by (with_reducible repeat (first | refine blk_drewN ?_ _ | refine blk_drew ?_ | refine blk_alloc ?_ _)); refine blk_far ?_ NB103_111.out _; (with_reducible repeat (first | refine blk_drewN ?_ _ | refine blk_drew ?_ | refine blk_alloc ?_ _)); refine blk_far ?_ NB103_111.out _; (with_reducible repeat (first | refine blk_drewN ?_ _ | refine blk_drew ?_ | refine blk_alloc ?_ _)); refine blk_far ?_ NB103_111.out _; (with_reducible repeat (first | refine blk_drewN ?_ _ | refine blk_drew ?_ | refine blk_alloc ?_ _)); refine blk_far ?_ NB103_111.out _; (with_reducible repeat (first | refine blk_drewN ?_ _ | refine blk_drew ?_ | refine blk_alloc ?_ _)); refine blk_far ?_ NB103_111.out _; (with_reducible repeat (first | refine blk_drewN ?_ _ | refine blk_drew ?_ | refine blk_alloc ?_ _)); exact BK103.out) hb); have n2_ := Aside0.mk (blk_below (g := gb104) (o := .cells #[.int .i32 a0, .int .i64 a1_0, .int .i64 a1_1, .int .i64 a1_2, .int .i64 1] 25 (0, 0)) (by (with_reducible repeat (first | refine blk_drewN ?_ _ | refine blk_drew ?_ | refine blk_alloc ?_ _)); refine blk_far ?_ NB104_111.out _; (with_reducible repeat (first | refine blk_drewN ?_ _ | refine blk_drew ?_ | refine blk_alloc ?_ _)); refine blk_far ?_ NB104_111.out _; (with_reducible repeat (first | refine blk_drewN ?_ _ | refine blk_drew ?_ | refine blk_alloc ?_ _)); refine blk_far ?_ NB104_111.out _; (with_reducible repeat (first | refine blk_drewN ?_ _ | refine blk_drew ?_ | refine blk_alloc ?_ _)); refine blk_far ?_ NB104_111.out _; (with_reducible repeat (first | refine blk_drewN ?_ _ | refine blk_drew ?_ | refine blk_alloc ?_ _)); refine blk_far ?_ NB104_111.out _; (with_reducible repeat (first | refine blk_drewN ?_ _ | refine blk_drew ?_ | refine blk_alloc ?_ _)); exact BK104.out) hb); have n3_ := Aside0.mk (blk_below (g := gb105) (o := .cells #[.int .i32 0, .int .i64 a1_0, .int .i64 a1_1, .int .i64 a1_2, .int .i64 2] 25 (0, 0)) (by (with_reducible repeat (first | refine blk_drewN ?_ _ | refine blk_drew ?_ | refine blk_alloc ?_ _)); refine blk_far ?_ NB105_111.out _; (with_reducible repeat (first | refine blk_drewN ?_ _ | refine blk_drew ?_ | refine blk_alloc ?_ _)); refine blk_far ?_ NB105_111.out _; (with_reducible repeat (first | refine blk_drewN ?_ _ | refine blk_drew ?_ | refine blk_alloc ?_ _)); refine blk_far ?_ NB105_111.out _; (with_reducible repeat (first | refine blk_drewN ?_ _ | refine blk_drew ?_ | refine blk_alloc ?_ _)); refine blk_far ?_ NB105_111.out _; (with_reducible repeat (first | refine blk_drewN ?_ _ | refine blk_drew ?_ | refine blk_alloc ?_ _)); refine blk_far ?_ NB105_111.out _; (with_reducible repeat (first | refine blk_drewN ?_ _ | refine blk_drew ?_ | refine blk_alloc ?_ _)); exact BK105.out) hb); have n4_ := Aside0.mk (blk_below (g := gb111) (o := .cells #[.int .i32 t106, .int .i64 t107, .int .i64 t108, .int .i64 t109, .int .i64 t110] 25 (0, 0)) (by (with_reducible repeat (first | refine blk_drewN ?_ _ | refine blk_drew ?_ | refine blk_alloc ?_ _)); refine blk_put (cs := #[.int .i32 t106, .int .i64 t107, .int .i64 t108, .int .i64 t109, .int .i64 0]) ?_ 4 _ rfl; (with_reducible repeat (first | refine blk_drewN ?_ _ | refine blk_drew ?_ | refine blk_alloc ?_ _)); refine blk_put (cs := #[.int .i32 t106, .int .i64 t107, .int .i64 t108, .int .i64 0, .int .i64 0]) ?_ 3 _ rfl; (with_reducible repeat (first | refine blk_drewN ?_ _ | refine blk_drew ?_ | refine blk_alloc ?_ _)); refine blk_put (cs := #[.int .i32 t106, .int .i64 t107, .int .i64 0, .int .i64 0, .int .i64 0]) ?_ 2 _ rfl; (with_reducible repeat (first | refine blk_drewN ?_ _ | refine blk_drew ?_ | refine blk_alloc ?_ _)); refine blk_put (cs := #[.int .i32 t106, .int .i64 0, .int .i64 0, .int .i64 0, .int .i64 0]) ?_ 1 _ rfl; (with_reducible repeat (first | refine blk_drewN ?_ _ | refine blk_drew ?_ | refine blk_alloc ?_ _)); refine blk_put (cs := #[.int .i32 0, .int .i64 0, .int .i64 0, .int .i64 0, .int .i64 0]) ?_ 0 _ rfl; (with_reducible repeat (first | refine blk_drewN ?_ _ | refine blk_drew ?_ | refine blk_alloc ?_ _)); exact BK111.out) hb); have n5_ := Aside0.mk (below_step (by repeat (first | (with_reducible first | exact HB.out | apply below_alloc | apply pw_below_drewN | apply below_drew1 | refine below_set ?_ GE101.out | refine below_set ?_ GE103.out | refine below_set ?_ GE104.out | refine below_set ?_ GE105.out | refine below_set ?_ GE111.out) | exact HB.out)) hb); clear BK101; clear BK103; clear BK104; clear BK105; clear BK111; clear HB; have BK101 := n0_; have BK103 := n1_; have BK104 := n2_; have BK105 := n3_; have BK111 := n4_; have HB := n5_; clear n0_ n1_ n2_ n3_ n4_ n5_; (try clear hb); (try clear hb2); (try clear hk); (try clear hi)) | ((with_reducible refine gate_callee (f := 6) rfl ?_); refine goesL_ (some 25) rfl rfl Tryd.func6 (by kernel_rfl) rfl #[] rfl (by (try simp only [List.map_toArray, List.map_cons, List.map_nil]); first | done | rfl | (simp only [List.length_drop, List.length_take]; rfl)) ?_; (with_reducible refine (tiklaw6_first.calls k  true _ ?side1 A68.out).mono ?_); (case side1 => first | (with_reducible exact HT.out) | exact tabAt HT.out (by repeat (first | (with_reducible first | exact HB.out | apply below_alloc | apply pw_below_drewN | apply below_drew1 | refine below_set ?_ GE101.out | refine below_set ?_ GE103.out | refine below_set ?_ GE104.out | refine below_set ?_ GE105.out | refine below_set ?_ GE111.out) | exact HB.out))); rintro e w110 ⟨rfl, hb⟩; refine ⟨_, rfl, ?_⟩; have n0_ := Aside0.mk (blk_below (g := gb101) (o := .cells #[.int .i64 a1_0, .int .i64 a1_1, .int .i64 a1_2] 23 (0, 0)) (by (with_reducible repeat (first | refine blk_drewN ?_ _ | refine blk_drew ?_ | refine blk_alloc ?_ _)); exact BK101.out) hb); have n1_ := Aside0.mk (blk_below (g := gb103) (o := .cells #[.int .i32 a0, .int .i64 a1_0, .int .i64 a1_1, .int .i64 a1_2, .int .i64 0] 25 (0, 0)) (by (with_reducible repeat (first | refine blk_drewN ?_ _ | refine blk_drew ?_ | refine blk_alloc ?_ _)); exact BK103.out) hb); have n2_ := Aside0.mk (blk_below (g := gb104) (o := .cells #[.int .i32 a0, .int .i64 a1_0, .int .i64 a1_1, .int .i64 a1_2, .int .i64 1] 25 (0, 0)) (by (with_reducible repeat (first | refine blk_drewN ?_ _ | refine blk_drew ?_ | refine blk_alloc ?_ _)); exact BK104.out) hb); have n3_ := Aside0.mk (blk_below (g := gb105) (o := .cells #[.int .i32 0, .int .i64 a1_0, .int .i64 a1_1, .int .i64 a1_2, .int .i64 2] 25 (0, 0)) (by (with_reducible repeat (first | refine blk_drewN ?_ _ | refine blk_drew ?_ | refine blk_alloc ?_ _)); exact BK105.out) hb); have n4_ := Aside0.mk (blk_below (g := gb111) (o := .cells #[.int .i32 t106, .int .i64 t107, .int .i64 t108, .int .i64 t109, .int .i64 t110] 25 (0, 0)) (by (with_reducible repeat (first | refine blk_drewN ?_ _ | refine blk_drew ?_ | refine blk_alloc ?_ _)); exact BK111.out) hb); have n5_ := Aside0.mk (below_step (by repeat (first | (with_reducible first | exact HB.out | apply below_alloc | apply pw_below_drewN | apply below_drew1 | refine below_set ?_ GE101.out | refine below_set ?_ GE103.out | refine below_set ?_ GE104.out | refine below_set ?_ GE105.out | refine below_set ?_ GE111.out) | exact HB.out)) hb); clear BK101; clear BK103; clear BK104; clear BK105; clear BK111; clear HB; have BK101 := n0_; have BK103 := n1_; have BK104 := n2_; have BK105 := n3_; have BK111 := n4_; have HB := n5_; clear n0_ n1_ n2_ n3_ n4_ n5_; (try clear hb); (try clear hb2); (try clear hk); (try clear hi); have hnb111 := NB103_104.out; have hnc111 := NB104_103.out; have hnb112 := NB103_105.out; have hnc112 := NB105_103.out; have hcz113_0 : w110.cell? ⟨gb103, 0, none⟩ = some (.int .i32 a0) := (blk_cell BK103.out 0).trans rfl; have hcz113_1 : w110.cell? ⟨gb103, 1, none⟩ = some (.int .i64 a1_0) := (blk_cell BK103.out 1).trans rfl; have hcz113_2 : w110.cell? ⟨gb103, 2, none⟩ = some (.int .i64 a1_1) := (blk_cell BK103.out 2).trans rfl; have hcz113_3 : w110.cell? ⟨gb103, 3, none⟩ = some (.int .i64 a1_2) := (blk_cell BK103.out 3).trans rfl; have hcz113_4 : w110.cell? ⟨gb103, 4, none⟩ = some (.int .i64 0) := (blk_cell BK103.out 4).trans rfl; have hfz113_0 := blk_frozen BK103.out 0; have hfz113_1 := blk_frozen BK103.out 1; have hfz113_2 := blk_frozen BK103.out 2; have hfz113_3 := blk_frozen BK103.out 3; have hfz113_4 := blk_frozen BK103.out 4) | (go_at_call 13; (with_reducible refine (cell_May.calls k a0 a1_0 a1_1 a1_2 0 false _ ?side1 A70.out).mono ?_); (case side1 => first | (with_reducible exact HT.out) | exact tabAt HT.out (by repeat (first | (with_reducible first | exact HB.out | apply below_alloc | apply pw_below_drewN | apply below_drew1 | refine below_set ?_ GE101.out | refine below_set ?_ GE103.out | refine below_set ?_ GE104.out | refine below_set ?_ GE105.out | refine below_set ?_ GE111.out) | exact HB.out))); rintro e w114 ⟨rfl, hb⟩; have n0_ := Aside0.mk (blk_below (g := gb101) (o := .cells #[.int .i64 a1_0, .int .i64 a1_1, .int .i64 a1_2] 23 (0, 0)) (by (with_reducible repeat (first | refine blk_drewN ?_ _ | refine blk_drew ?_ | refine blk_alloc ?_ _)); exact BK101.out) hb); have n1_ := Aside0.mk (blk_below (g := gb103) (o := .cells #[.int .i32 a0, .int .i64 a1_0, .int .i64 a1_1, .int .i64 a1_2, .int .i64 0] 25 (0, 0)) (by (with_reducible repeat (first | refine blk_drewN ?_ _ | refine blk_drew ?_ | refine blk_alloc ?_ _)); exact BK103.out) hb); have n2_ := Aside0.mk (blk_below (g := gb104) (o := .cells #[.int .i32 a0, .int .i64 a1_0, .int .i64 a1_1, .int .i64 a1_2, .int .i64 1] 25 (0, 0)) (by (with_reducible repeat (first | refine blk_drewN ?_ _ | refine blk_drew ?_ | refine blk_alloc ?_ _)); exact BK104.out) hb); have n3_ := Aside0.mk (blk_below (g := gb105) (o := .cells #[.int .i32 0, .int .i64 a1_0, .int .i64 a1_1, .int .i64 a1_2, .int .i64 2] 25 (0, 0)) (by (with_reducible repeat (first | refine blk_drewN ?_ _ | refine blk_drew ?_ | refine blk_alloc ?_ _)); exact BK105.out) hb); have n4_ := Aside0.mk (blk_below (g := gb111) (o := .cells #[.int .i32 t106, .int .i64 t107, .int .i64 t108, .int .i64 t109, .int .i64 t110] 25 (0, 0)) (by (with_reducible repeat (first | refine blk_drewN ?_ _ | refine blk_drew ?_ | refine blk_alloc ?_ _)); exact BK111.out) hb); have n5_ := Aside0.mk (below_step (by repeat (first | (with_reducible first | exact HB.out | apply below_alloc | apply pw_below_drewN | apply below_drew1 | refine below_set ?_ GE101.out | refine below_set ?_ GE103.out | refine below_set ?_ GE104.out | refine below_set ?_ GE105.out | refine below_set ?_ GE111.out) | exact HB.out)) hb); clear BK101; clear BK103; clear BK104; clear BK105; clear BK111; clear HB; have BK101 := n0_; have BK103 := n1_; have BK104 := n2_; have BK105 := n3_; have BK111 := n4_; have HB := n5_; clear n0_ n1_ n2_ n3_ n4_ n5_; (try clear hb); (try clear hb2); (try clear hk); (try clear hi); have hnb115 := NB104_105.out; have hnc115 := NB105_104.out; have hcz116_0 : w114.cell? ⟨gb104, 0, none⟩ = some (.int .i32 a0) := (blk_cell BK104.out 0).trans rfl; have hcz116_1 : w114.cell? ⟨gb104, 1, none⟩ = some (.int .i64 a1_0) := (blk_cell BK104.out 1).trans rfl; have hcz116_2 : w114.cell? ⟨gb104, 2, none⟩ = some (.int .i64 a1_1) := (blk_cell BK104.out 2).trans rfl; have hcz116_3 : w114.cell? ⟨gb104, 3, none⟩ = some (.int .i64 a1_2) := (blk_cell BK104.out 3).trans rfl; have hcz116_4 : w114.cell? ⟨gb104, 4, none⟩ = some (.int .i64 1) := (blk_cell BK104.out 4).trans rfl; have hfz116_0 := blk_frozen BK104.out 0; have hfz116_1 := blk_frozen BK104.out 1; have hfz116_2 := blk_frozen BK104.out 2; have hfz116_3 := blk_frozen BK104.out 3; have hfz116_4 := blk_frozen BK104.out 4) | (go_at_call 13; (with_reducible refine (cell_May.calls k a0 a1_0 a1_1 a1_2 1 false _ ?side1 A72.out).mono ?_); (case side1 => first | (with_reducible exact HT.out) | exact tabAt HT.out (by repeat (first | (with_reducible first | exact HB.out | apply below_alloc | apply pw_below_drewN | apply below_drew1 | refine below_set ?_ GE101.out | refine below_set ?_ GE103.out | refine below_set ?_ GE104.out | refine below_set ?_ GE105.out | refine below_set ?_ GE111.out) | exact HB.out))); rintro e w117 ⟨rfl, hb⟩; have n0_ := Aside0.mk (blk_below (g := gb101) (o := .cells #[.int .i64 a1_0, .int .i64 a1_1, .int .i64 a1_2] 23 (0, 0)) (by (with_reducible repeat (first | refine blk_drewN ?_ _ | refine blk_drew ?_ | refine blk_alloc ?_ _)); exact BK101.out) hb); have n1_ := Aside0.mk (blk_below (g := gb103) (o := .cells #[.int .i32 a0, .int .i64 a1_0, .int .i64 a1_1, .int .i64 a1_2, .int .i64 0] 25 (0, 0)) (by (with_reducible repeat (first | refine blk_drewN ?_ _ | refine blk_drew ?_ | refine blk_alloc ?_ _)); exact BK103.out) hb); have n2_ := Aside0.mk (blk_below (g := gb104) (o := .cells #[.int .i32 a0, .int .i64 a1_0, .int .i64 a1_1, .int .i64 a1_2, .int .i64 1] 25 (0, 0)) (by (with_reducible repeat (first | refine blk_drewN ?_ _ | refine blk_drew ?_ | refine blk_alloc ?_ _)); exact BK104.out) hb); have n3_ := Aside0.mk (blk_below (g := gb105) (o := .cells #[.int .i32 0, .int .i64 a1_0, .int .i64 a1_1, .int .i64 a1_2, .int .i64 2] 25 (0, 0)) (by (with_reducible repeat (first | refine blk_drewN ?_ _ | refine blk_drew ?_ | refine blk_alloc ?_ _)); exact BK105.out) hb); have n4_ := Aside0.mk (blk_below (g := gb111) (o := .cells #[.int .i32 t106, .int .i64 t107, .int .i64 t108, .int .i64 t109, .int .i64 t110] 25 (0, 0)) (by (with_reducible repeat (first | refine blk_drewN ?_ _ | refine blk_drew ?_ | refine blk_alloc ?_ _)); exact BK111.out) hb); have n5_ := Aside0.mk (below_step (by repeat (first | (with_reducible first | exact HB.out | apply below_alloc | apply pw_below_drewN | apply below_drew1 | refine below_set ?_ GE101.out | refine below_set ?_ GE103.out | refine below_set ?_ GE104.out | refine below_set ?_ GE105.out | refine below_set ?_ GE111.out) | exact HB.out)) hb); clear BK101; clear BK103; clear BK104; clear BK105; clear BK111; clear HB; have BK101 := n0_; have BK103 := n1_; have BK104 := n2_; have BK105 := n3_; have BK111 := n4_; have HB := n5_; clear n0_ n1_ n2_ n3_ n4_ n5_; (try clear hb); (try clear hb2); (try clear hk); (try clear hi); have hcz118_0 : w117.cell? ⟨gb105, 0, none⟩ = some (.int .i32 0) := (blk_cell BK105.out 0).trans rfl; have hcz118_1 : w117.cell? ⟨gb105, 1, none⟩ = some (.int .i64 a1_0) := (blk_cell BK105.out 1).trans rfl; have hcz118_2 : w117.cell? ⟨gb105, 2, none⟩ = some (.int .i64 a1_1) := (blk_cell BK105.out 2).trans rfl; have hcz118_3 : w117.cell? ⟨gb105, 3, none⟩ = some (.int .i64 a1_2) := (blk_cell BK105.out 3).trans rfl; have hcz118_4 : w117.cell? ⟨gb105, 4, none⟩ = some (.int .i64 2) := (blk_cell BK105.out 4).trans rfl; have hfz118_0 := blk_frozen BK105.out 0; have hfz118_1 := blk_frozen BK105.out 1; have hfz118_2 := blk_frozen BK105.out 2; have hfz118_3 := blk_frozen BK105.out 3; have hfz118_4 := blk_frozen BK105.out 4) | (go_at_call 13; (with_reducible refine (cell_May.calls k 0 a1_0 a1_1 a1_2 2 t116 _ ?side1 A74.out).mono ?_); (case side1 => first | (with_reducible exact HT.out) | exact tabAt HT.out (by repeat (first | (with_reducible first | exact HB.out | apply below_alloc | apply pw_below_drewN | apply below_drew1 | refine below_set ?_ GE101.out | refine below_set ?_ GE103.out | refine below_set ?_ GE104.out | refine below_set ?_ GE105.out | refine below_set ?_ GE111.out) | exact HB.out))); rintro e w119 ⟨rfl, hb⟩; have n0_ := Aside0.mk (blk_below (g := gb101) (o := .cells #[.int .i64 a1_0, .int .i64 a1_1, .int .i64 a1_2] 23 (0, 0)) (by (with_reducible repeat (first | refine blk_drewN ?_ _ | refine blk_drew ?_ | refine blk_alloc ?_ _)); exact BK101.out) hb); have n1_ := Aside0.mk (blk_below (g := gb103) (o := .cells #[.int .i32 a0, .int .i64 a1_0, .int .i64 a1_1, .int .i64 a1_2, .int .i64 0] 25 (0, 0)) (by (with_reducible repeat (first | refine blk_drewN ?_ _ | refine blk_drew ?_ | refine blk_alloc ?_ _)); exact BK103.out) hb); have n2_ := Aside0.mk (blk_below (g := gb104) (o := .cells #[.int .i32 a0, .int .i64 a1_0, .int .i64 a1_1, .int .i64 a1_2, .int .i64 1] 25 (0, 0)) (by (with_reducible repeat (first | refine blk_drewN ?_ _ | refine blk_drew ?_ | refine blk_alloc ?_ _)); exact BK104.out) hb); have n3_ := Aside0.mk (blk_below (g := gb105) (o := .cells #[.int .i32 0, .int .i64 a1_0, .int .i64 a1_1, .int .i64 a1_2, .int .i64 2] 25 (0, 0)) (by (with_reducible repeat (first | refine blk_drewN ?_ _ | refine blk_drew ?_ | refine blk_alloc ?_ _)); exact BK105.out) hb); have n4_ := Aside0.mk (blk_below (g := gb111) (o := .cells #[.int .i32 t106, .int .i64 t107, .int .i64 t108, .int .i64 t109, .int .i64 t110] 25 (0, 0)) (by (with_reducible repeat (first | refine blk_drewN ?_ _ | refine blk_drew ?_ | refine blk_alloc ?_ _)); exact BK111.out) hb); have n5_ := Aside0.mk (below_step (by repeat (first | (with_reducible first | exact HB.out | apply below_alloc | apply pw_below_drewN | apply below_drew1 | refine below_set ?_ GE101.out | refine below_set ?_ GE103.out | refine below_set ?_ GE104.out | refine below_set ?_ GE105.out | refine below_set ?_ GE111.out) | exact HB.out)) hb); clear BK101; clear BK103; clear BK104; clear BK105; clear BK111; clear HB; have BK101 := n0_; have BK103 := n1_; have BK104 := n2_; have BK105 := n3_; have BK111 := n4_; have HB := n5_; clear n0_ n1_ n2_ n3_ n4_ n5_; (try clear hb); (try clear hb2); (try clear hk); (try clear hi)))
      go_ret
      exact ⟨by first | rfl | (simp [errW_none, errW_some] <;> rfl) | (simp [*, errW_none, errW_some] <;> rfl), by repeat (first | (with_reducible first | exact HB.out | apply below_alloc | apply pw_below_drewN | apply below_drew1 | refine below_set ?_ GE101.out | refine below_set ?_ GE103.out | refine below_set ?_ GE104.out | refine below_set ?_ GE105.out | refine below_set ?_ GE111.out) | exact HB.out)⟩
   ·replace c69 := Bool.eq_false_iff.mpr c69
    subst c69
    have H1 : (some false) = some r := by rw [if_neg (show ¬ (false = true) by decide)] at H; exact H
    clear H
    have H := H1
    clear H1
    exact absurd ((Option.some.inj H).trans hr_.out) (by simp)
 ·replace c4 := Bool.eq_false_iff.mpr c4
  subst c4
  have H1 : (some false) = some r := by rw [if_neg (show ¬ (false = true) by decide)] at H; exact H
  clear H
  have H := H1
  clear H1
  exact absurd ((Option.some.inj H).trans hr_.out) (by simp)
end Go.Proofs.YtabljieejnhefaaDoor.PC
