/- Texts of this claim, put together. -/
import Derived.Test.YtdklanenmihpdaaMRTb
import Derived.Test.YtdklanenmihpdaaMRTc
import Derived.Test.YtdklanenmihpdaaMRTd
import Derived.Test.YtdklanenmihpdaaRows
import Derived.Test.YtdklanenmihpdaaMRTa
import Derived.WalkKit
import Derived.ProofKit
import Derived.OpenShut
import Derived.ShutString
import Derived.ChangeOld
import Derived.Below
import Derived.SizedLaws
set_option linter.unusedVariables false
set_option linter.unusedSimpArgs false
namespace Go.Proofs.Ytdklanenmihpdaa.PL
open Go.RowKit Go.Proofs.YtdklanenmihpdaaW.PrintWords Go.Proofs.YtdklanenmihpdaaW.PrintLast Go.Proofs.YtdklanenmihpdaaW.PrintMore
attribute [local go_sem] max2_int min2_int max_two min_two max_three min_three max_four min_four
open Go.Proofs.Ytdklanenmihpdaa.Hand
open Go.Proofs.Ytdklanenmihpdaa.PA
set_option linter.unusedVariables false
set_option linter.unusedSimpArgs false
def tiklaw15_RecTells.j0 : Nat → List Int → Int → Bool → Int → Int → Int → List Int → Int → Int → Int → List Int → Option (Bool)
  | 0, _, _, _, _, _, _, _, _, _, _, _ => none
  | k + 1, x2, x3, x35, x183000, x183001, x183002, x183003, x184000, x184001, x184002, x184003 => if x35 = true then ((tiklaw15_first.f k).bind fun t185 => (some t185)) else ((rec_Encode.f k x183000 x183001 x183002 x183003).bind fun bt186 => ((tiklaw15_Plain.f x183000 x183001 x183002 x183003).bind fun bt190 => ((tikref13_EncodeRecord.f k bt190.1 bt190.2.1 bt190.2.2.1 bt190.2.2.2).bind fun bt196 => ((rec_Decode.f x2 x3).bind fun bt200 => ((tikref13_DecodeRecord.f x2 x3).bind fun bt209 => ((tiklaw15_first.f k).bind fun t218 => (if t218 = true then ((tikref_Bytes.f bt186.1 bt196.1).bind fun t219 => (if t219 = true then (if bt186.2 = bt196.2 then ((tiklaw15_Plain.f bt200.1 bt200.2.1 bt200.2.2.1 bt200.2.2.2.1).bind fun bt220 => ((tikref13_SameRecord.f bt220.1 bt220.2.1 bt220.2.2.1 bt220.2.2.2 bt209.1 bt209.2.1 bt209.2.2.1 bt209.2.2.2.1).bind fun t226 => (if t226 = true then (if bt200.2.2.2.2.1 = bt209.2.2.2.2.1 then (if bt200.2.2.2.2.2 = bt209.2.2.2.2.2 then ((rec_May.f x183000 x183001 x183002 x183003).bind fun t227 => ((tiklaw15_Plain.f x183000 x183001 x183002 x183003).bind fun bt228 => ((tikref13_MayRecord.f bt228.1 bt228.2.1 bt228.2.2.1 bt228.2.2.2).bind fun t234 => (if (t227 == t234) = true then ((rec_Same.f x183000 x183001 x183002 x183003 x184000 x184001 x184002 x184003).bind fun t235 => ((tiklaw15_Plain.f x183000 x183001 x183002 x183003).bind fun bt236 => ((tiklaw15_Plain.f x184000 x184001 x184002 x184003).bind fun bt242 => ((tikref13_SameRecord.f bt236.1 bt236.2.1 bt236.2.2.1 bt236.2.2.2 bt242.1 bt242.2.1 bt242.2.2.1 bt242.2.2.2).bind fun t248 => (some (t235 == t248)))))) else (some false))))) else (some false)) else (some false)) else (some false)))) else (some false)) else (some false))) else (some false))))))))
def tiklaw15_RecTells.f (k : Nat) (a0_0 : Int) (a0_1 : Int) (a0_2 : Int) (l0_3 : List Int) (a1_0 : Int) (a1_1 : Int) (a1_2 : Int) (l1_3 : List Int) (l2 : List Int) (a3 : Int) : Option (Bool) := (tiklaw15_first.f k).bind fun t184 => (if t184 = true then (if (l0_3.length : Int) > 3000 then (tiklaw15_RecTells.j0 k l2 a3 true a0_0 a0_1 a0_2 l0_3 a1_0 a1_1 a1_2 l1_3) else (if (l1_3.length : Int) > 3000 then (tiklaw15_RecTells.j0 k l2 a3 true a0_0 a0_1 a0_2 l0_3 a1_0 a1_1 a1_2 l1_3) else (tiklaw15_RecTells.j0 k l2 a3 (decide ((l2.length : Int) > 3000)) a0_0 a0_1 a0_2 l0_3 a1_0 a1_1 a1_2 l1_3))) else (some false))
def tiklaw15_RecTells.T9 : Bool × List (List Nat × List Nat) := (true, [([], []), ([0, 0], [0]), ([1], [1]), ([1], [1]), ([2, 3, 1, 1], [1, 2, 3]), ([1, 4], [1, 4]), ([5, 4], [5]), ([6], [6]), ([6], [6]), ([7, 8, 6], [6, 7, 8]), ([6, 9], [6, 9]), ([10, 6], [10]), ([11], [11]), ([12, 11, 11], [11, 12]), ([11], [11]), ([13, 14, 13, 11], [11, 13, 14]), ([11, 15], [11, 15]), ([16, 15], [16]), ([17], [17]), ([17], [17]), ([18, 19, 17], [17, 18, 19]), ([17, 20], [17, 20]), ([21, 17], [21]), ([22], [22]), ([22], [22]), ([23, 24, 22], [22, 23, 24]), ([22, 25], [22, 25]), ([26, 22], [26]), ([27], [27]), ([28, 27, 27], [27, 28]), ([27], [27]), ([30, 29, 27], [27, 30]), ([31, 31, 27], [27, 31]), ([29, 32, 27], [27, 29, 32]), ([27, 33], [27, 33]), ([34, 32], [34]), ([35], [35]), ([35], [35]), ([36, 37, 35, 35], [35, 36, 37]), ([35], [35]), ([39, 38, 35], [35, 39]), ([35], [35]), ([41, 40, 35], [35, 41]), ([40, 42, 42, 35], [35, 40, 42]), ([38, 43, 35], [35, 38, 43]), ([35, 44], [35, 44]), ([45, 43, 0, 1, 2, 3, 4, 5, 6, 7, 8, 9, 10, 11, 12, 13, 14, 15, 16, 17, 18, 19, 20, 21, 22, 23, 24, 25, 26, 27, 28, 29, 30, 31, 32, 33, 34, 35, 36, 37, 38, 39, 40, 41, 42, 43, 44, 45], [45])])
def tiklaw15_RecTells.B9 : List Nat := [0, 1, 3, 3, 15, 31, 63, 127, 127, 511, 1023, 2047, 4095, 8191, 4095, 32767, 65535, 131071, 262143, 262143, 1048575, 2097151, 4194303, 8388607, 8388607, 33554431, 67108863, 134217727, 268435455, 536870911, 268435455, 2147483647, 4294967295, 8589934591, 17179869183, 34359738367, 68719476735, 68719476735, 274877906943, 68719476735, 1099511627775, 68719476735, 4398046511103, 8796093022207, 17592186044415, 35184372088831, 70368744177663]
theorem tiklaw15_RecTells.tab9 : rtab .any (opsOf Try.f3 9) = tiklaw15_RecTells.T9 := by kernel_rfl
theorem tiklaw15_RecTells.bits9 : waitsOk tiklaw15_RecTells.T9.2 tiklaw15_RecTells.B9 = true := by kernel_rfl
set_option maxHeartbeats 8000000 in
set_option maxRecDepth 100000 in
theorem tiklaw15_RecTells.calls (k : Nat) (a0_0 : Int) (a0_1 : Int) (a0_2 : Int) (A0_3 : Option Addr) (c0_3 : Nat) (l0_3 : List Int) (a1_0 : Int) (a1_1 : Int) (a1_2 : Int) (A1_3 : Option Addr) (c1_3 : Nat) (l1_3 : List Int) (A2 : Option Addr) (c2 : Nat) (l2 : List Int) (a3 : Int) (r : Bool) (w : World) (hr0_3 : Kd.C (Kd.int .u8) w A0_3 l0_3.length l0_3) (hc0_3 : l0_3.length ≤ c0_3) (hr1_3 : Kd.C (Kd.int .u8) w A1_3 l1_3.length l1_3) (hc1_3 : l1_3.length ≤ c1_3) (hr2 : Kd.C (Kd.int .u8) w A2 l2.length l2) (hc2 : l2.length ≤ c2) (hr_ : Aside0 (r = true)) (h : tiklaw15_RecTells.f k a0_0 a0_1 a0_2 l0_3 a1_0 a1_1 a1_2 l1_3 l2 a3 = some r) :
    Calls Try.prog 3 #[.agg #[.int .i64 a0_0, .int .u64 a0_1, .int .u64 a0_2, .slice A0_3 l0_3.length c0_3], .agg #[.int .i64 a1_0, .int .u64 a1_1, .int .u64 a1_2, .slice A1_3 l1_3.length c1_3], .slice A2 l2.length c2, .int .i64 a3] w fun e w' => e = .returned (.bool r) ∧ Below w.heap.size w w' := by
  have hu25 := Try.underlying25
  have hu31 := Try.underlying31
  have HR0_3 := Aside0.mk hr0_3
  have HC0_3 := Aside0.mk hc0_3
  clear hr0_3 hc0_3
  have HR1_3 := Aside0.mk hr1_3
  have HC1_3 := Aside0.mk hc1_3
  clear hr1_3 hc1_3
  have HR2 := Aside0.mk hr2
  have HC2 := Aside0.mk hc2
  clear hr2 hc2
  have HB := Aside0.mk (Below.refl w.heap.size w)
  have H : ((tiklaw15_first.f k).bind fun t184 => (if t184 = true then (if (l0_3.length : Int) > 3000 then (tiklaw15_RecTells.j0 k l2 a3 true a0_0 a0_1 a0_2 l0_3 a1_0 a1_1 a1_2 l1_3) else (if (l1_3.length : Int) > 3000 then (tiklaw15_RecTells.j0 k l2 a3 true a0_0 a0_1 a0_2 l0_3 a1_0 a1_1 a1_2 l1_3) else (tiklaw15_RecTells.j0 k l2 a3 (decide ((l2.length : Int) > 3000)) a0_0 a0_1 a0_2 l0_3 a1_0 a1_1 a1_2 l1_3))) else (some false))) = some r := h
  clear h
  replace H := Option.bind_eq_some_iff.mp H
  obtain ⟨t184, A50, H⟩ := H
  replace H : (if t184 = true then (if (l0_3.length : Int) > 3000 then (tiklaw15_RecTells.j0 k l2 a3 true a0_0 a0_1 a0_2 l0_3 a1_0 a1_1 a1_2 l1_3) else (if (l1_3.length : Int) > 3000 then (tiklaw15_RecTells.j0 k l2 a3 true a0_0 a0_1 a0_2 l0_3 a1_0 a1_1 a1_2 l1_3) else (tiklaw15_RecTells.j0 k l2 a3 (decide ((l2.length : Int) > 3000)) a0_0 a0_1 a0_2 l0_3 a1_0 a1_1 a1_2 l1_3))) else (some false)) = some r := H
  have A5 := Aside0.mk A50
  clear A50
  by_cases c6 : t184 = true
  · subst c6
    have H1 : (if (l0_3.length : Int) > 3000 then (tiklaw15_RecTells.j0 k l2 a3 true a0_0 a0_1 a0_2 l0_3 a1_0 a1_1 a1_2 l1_3) else (if (l1_3.length : Int) > 3000 then (tiklaw15_RecTells.j0 k l2 a3 true a0_0 a0_1 a0_2 l0_3 a1_0 a1_1 a1_2 l1_3) else (tiklaw15_RecTells.j0 k l2 a3 (decide ((l2.length : Int) > 3000)) a0_0 a0_1 a0_2 l0_3 a1_0 a1_1 a1_2 l1_3))) = some r := by rw [if_pos rfl] at H; exact H
    clear H
    have H := H1
    clear H1
    have HC7 := Aside0.mk H
    clear H
    go_enter Try.func3, Try.ntmps3
    go_upto_region 3 with (first | ((with_reducible refine gate_dst (N := 4) rfl ?_); (try (refine gate_guard (by rfl) ?_; dsimp only)); refine box_event ?hg (N := 4) ?hd (cs := #[.int .i64 a0_0, .int .u64 a0_1, .int .u64 a0_2, .slice A0_3 l0_3.length c0_3]) (t := 25) ?hr ?_; (case hd => rfl); (case hg => rfl); (case hr => first | (go_simp; done) | (go_simp; rfl)); intro gb182 hg w8 hbox hb; have n0_ := Aside0.mk (below_step (by repeat (first | (with_reducible first | exact HB.out | apply below_alloc | apply pw_below_drewN | apply below_drew1) | exact HB.out)) hb); have n1_ := Aside0.mk (hbox); have n2_ := Aside0.mk ((by rw [hg]; exact (below_size (by repeat (first | (with_reducible first | exact HB.out | apply below_alloc | apply pw_below_drewN | apply below_drew1) | exact HB.out))) : w.heap.size ≤ gb182)); have n3_ := Aside0.mk ((by rw [hg]; exact (below_size (by repeat (first | (with_reducible first | exact HB.out | apply below_alloc | apply pw_below_drewN | apply below_drew1) | exact HB.out))) : w.heap.size ≤ gb182)); clear HB; have HB := n0_; have BK182 := n1_; have GW182 := n2_; have GE182 := n3_; clear n0_ n1_ n2_ n3_; clear hb hbox hg) | ((with_reducible refine gate_dst (N := 5) rfl ?_); (try (refine gate_guard (by rfl) ?_; dsimp only)); refine box_event ?hg (N := 5) ?hd (cs := #[.int .i64 a1_0, .int .u64 a1_1, .int .u64 a1_2, .slice A1_3 l1_3.length c1_3]) (t := 25) ?hr ?_; (case hd => rfl); (case hg => rfl); (case hr => first | (go_simp; done) | (go_simp; rfl)); intro gb183 hg w9 hbox hb; have n0_ := Aside0.mk (blk_below (g := gb182) (o := .cells #[.int .i64 a0_0, .int .u64 a0_1, .int .u64 a0_2, .slice A0_3 l0_3.length c0_3] 25 (0, 0)) (by (with_reducible repeat (first | refine blk_drewN ?_ _ | refine blk_drew ?_ | refine blk_alloc ?_ _)); exact BK182.out) hb); have n1_ := Aside0.mk (below_step (by repeat (first | (with_reducible first | exact HB.out | apply below_alloc | apply pw_below_drewN | apply below_drew1 | refine below_set ?_ GE182.out) | exact HB.out)) hb); have n2_ := Aside0.mk (hbox); have n3_ := Aside0.mk ((by rw [hg]; exact (below_size (by repeat (first | (with_reducible first | exact HB.out | apply below_alloc | apply pw_below_drewN | apply below_drew1 | refine below_set ?_ GE182.out) | exact HB.out))) : w.heap.size ≤ gb183)); have n4_ := Aside0.mk ((by rw [hg]; exact (below_size (by repeat (first | (with_reducible first | exact HB.out | apply below_alloc | apply pw_below_drewN | apply below_drew1 | refine below_set ?_ GE182.out) | exact HB.out))) : w.heap.size ≤ gb183)); have n5_ := Aside0.mk ((by rw [hg]; exact Nat.ne_of_lt (blk_lt (g := gb182) (o := .cells #[.int .i64 a0_0, .int .u64 a0_1, .int .u64 a0_2, .slice A0_3 l0_3.length c0_3] 25 (0, 0)) (by (with_reducible repeat (first | refine blk_drewN ?_ _ | refine blk_drew ?_ | refine blk_alloc ?_ _)); exact BK182.out)) : gb182 ≠ gb183)); have n6_ := Aside0.mk ((by rw [hg]; exact Nat.ne_of_gt (blk_lt (g := gb182) (o := .cells #[.int .i64 a0_0, .int .u64 a0_1, .int .u64 a0_2, .slice A0_3 l0_3.length c0_3] 25 (0, 0)) (by (with_reducible repeat (first | refine blk_drewN ?_ _ | refine blk_drew ?_ | refine blk_alloc ?_ _)); exact BK182.out)) : gb183 ≠ gb182)); clear BK182; clear HB; have BK182 := n0_; have HB := n1_; have BK183 := n2_; have GW183 := n3_; have GE183 := n4_; have NB182_183 := n5_; have NB183_182 := n6_; clear n0_ n1_ n2_ n3_ n4_ n5_ n6_; clear hb hbox hg) | ((with_reducible refine gate_callee (f := 10) rfl ?_); refine goesL_ (some 19) rfl rfl Try.func10 (by kernel_rfl) rfl #[] rfl (by (try simp only [List.map_toArray, List.map_cons, List.map_nil]); first | done | rfl | (simp only [List.length_drop, List.length_take]; rfl)) ?_; (with_reducible refine (tiklaw15_first.calls k  true _ A5.out).mono ?_); rintro e w10 ⟨rfl, hb⟩; refine ⟨_, rfl, ?_⟩; have n0_ := Aside0.mk (blk_below (g := gb182) (o := .cells #[.int .i64 a0_0, .int .u64 a0_1, .int .u64 a0_2, .slice A0_3 l0_3.length c0_3] 25 (0, 0)) (by (with_reducible repeat (first | refine blk_drewN ?_ _ | refine blk_drew ?_ | refine blk_alloc ?_ _)); exact BK182.out) hb); have n1_ := Aside0.mk (blk_below (g := gb183) (o := .cells #[.int .i64 a1_0, .int .u64 a1_1, .int .u64 a1_2, .slice A1_3 l1_3.length c1_3] 25 (0, 0)) (by (with_reducible repeat (first | refine blk_drewN ?_ _ | refine blk_drew ?_ | refine blk_alloc ?_ _)); exact BK183.out) hb); have n2_ := Aside0.mk (below_step (by repeat (first | (with_reducible first | exact HB.out | apply below_alloc | apply pw_below_drewN | apply below_drew1 | refine below_set ?_ GE182.out | refine below_set ?_ GE183.out) | exact HB.out)) hb); clear BK182; clear BK183; clear HB; have BK182 := n0_; have BK183 := n1_; have HB := n2_; clear n0_ n1_ n2_; (try clear hb); (try clear hb2); (try clear hk); (try clear hi)))
    (try simp only [Act.put, List.setIfInBounds_toArray, List.set_cons_zero, List.set_cons_succ])
    go_cut [35] (fun v35 wc => ∃ (kq : Nat) (x35_6 : Bool), v35 = .bool x35_6 ∧ Aside0 (tiklaw15_RecTells.j0 kq l2 a3 x35_6 a0_0 a0_1 a0_2 l0_3 a1_0 a1_1 a1_2 l1_3 = some r) ∧ Aside0 (kq ≤ k) ∧ Aside0 (wc.heap[gb182]? = some (.cells #[.int .i64 a0_0, .int .u64 a0_1, .int .u64 a0_2, (.slice A0_3 l0_3.length c0_3)] 25 (0, 0))) ∧ Aside0 (wc.heap[gb183]? = some (.cells #[.int .i64 a1_0, .int .u64 a1_1, .int .u64 a1_2, (.slice A1_3 l1_3.length c1_3)] 25 (0, 0))) ∧ Aside0 (Below w.heap.size w wc))
    case first =>
      have H := HC7.out
      clear HC7
      by_cases c11 : (l0_3.length : Int) > 3000
      · rw [if_pos c11] at H
        have c11b0 : decide (3000 < (l0_3.length : Int)) = true := decide_eq_true c11
        have c11b1 : decide (3000 < l0_3.length) = true := decide_eq_true (by omega)
        clear c11
        (first | rw [c11b0] | (simp only [i64_w, i32_w]; rw [c11b0]) | skip)
        have H' := Aside0.mk H
        clear H
        have hnb12 := NB182_183.out
        have hnc12 := NB183_182.out
        have hcz13_0 : w10.cell? ⟨gb182, 0, none⟩ = some (.int .i64 a0_0) := (blk_cell BK182.out 0).trans rfl
        have hcz13_1 : w10.cell? ⟨gb182, 1, none⟩ = some (.int .u64 a0_1) := (blk_cell BK182.out 1).trans rfl
        have hcz13_2 : w10.cell? ⟨gb182, 2, none⟩ = some (.int .u64 a0_2) := (blk_cell BK182.out 2).trans rfl
        have hcz13_3 : w10.cell? ⟨gb182, 3, none⟩ = some (.slice A0_3 l0_3.length c0_3) := (blk_cell BK182.out 3).trans rfl
        have hfz13_0 := blk_frozen BK182.out 0
        have hfz13_1 := blk_frozen BK182.out 1
        have hfz13_2 := blk_frozen BK182.out 2
        have hfz13_3 := blk_frozen BK182.out 3
        go_wp2
        go_meet
        case rel => exact ⟨_, (true), (by first | rfl | (simp; done) | (simp [*]; done)), H', ⟨by first | omega | exact Nat.le_refl _⟩, ⟨by (with_reducible repeat (first | refine blk_drewN ?_ _ | refine blk_drew ?_ | refine blk_alloc ?_ _)); exact BK182.out⟩, ⟨by (with_reducible repeat (first | refine blk_drewN ?_ _ | refine blk_drew ?_ | refine blk_alloc ?_ _)); exact BK183.out⟩, ⟨by repeat (first | (with_reducible first | exact HB.out | apply below_alloc | apply pw_below_drewN | apply below_drew1 | refine below_set ?_ GE182.out | refine below_set ?_ GE183.out) | exact HB.out)⟩⟩
      · rw [if_neg c11] at H
        have c11b0 : decide (3000 < (l0_3.length : Int)) = false := decide_eq_false c11
        have c11b1 : decide (3000 < l0_3.length) = false := decide_eq_false (by omega)
        clear c11
        (first | rw [c11b0] | (simp only [i64_w, i32_w]; rw [c11b0]) | skip)
        by_cases c14 : (l1_3.length : Int) > 3000
        · rw [if_pos c14] at H
          have c14b0 : decide (3000 < (l1_3.length : Int)) = true := decide_eq_true c14
          have c14b1 : decide (3000 < l1_3.length) = true := decide_eq_true (by omega)
          clear c14
          have H' := Aside0.mk H
          clear H
          have hnb15 := NB182_183.out
          have hnc15 := NB183_182.out
          have hcz16_0 : w10.cell? ⟨gb182, 0, none⟩ = some (.int .i64 a0_0) := (blk_cell BK182.out 0).trans rfl
          have hcz16_1 : w10.cell? ⟨gb182, 1, none⟩ = some (.int .u64 a0_1) := (blk_cell BK182.out 1).trans rfl
          have hcz16_2 : w10.cell? ⟨gb182, 2, none⟩ = some (.int .u64 a0_2) := (blk_cell BK182.out 2).trans rfl
          have hcz16_3 : w10.cell? ⟨gb182, 3, none⟩ = some (.slice A0_3 l0_3.length c0_3) := (blk_cell BK182.out 3).trans rfl
          have hfz16_0 := blk_frozen BK182.out 0
          have hfz16_1 := blk_frozen BK182.out 1
          have hfz16_2 := blk_frozen BK182.out 2
          have hfz16_3 := blk_frozen BK182.out 3
          have hcz17_0 : w10.cell? ⟨gb183, 0, none⟩ = some (.int .i64 a1_0) := (blk_cell BK183.out 0).trans rfl
          have hcz17_1 : w10.cell? ⟨gb183, 1, none⟩ = some (.int .u64 a1_1) := (blk_cell BK183.out 1).trans rfl
          have hcz17_2 : w10.cell? ⟨gb183, 2, none⟩ = some (.int .u64 a1_2) := (blk_cell BK183.out 2).trans rfl
          have hcz17_3 : w10.cell? ⟨gb183, 3, none⟩ = some (.slice A1_3 l1_3.length c1_3) := (blk_cell BK183.out 3).trans rfl
          have hfz17_0 := blk_frozen BK183.out 0
          have hfz17_1 := blk_frozen BK183.out 1
          have hfz17_2 := blk_frozen BK183.out 2
          have hfz17_3 := blk_frozen BK183.out 3
          go_wp2
          go_meet
          case rel => exact ⟨_, (true), (by first | rfl | (simp; done) | (simp [*]; done)), H', ⟨by first | omega | exact Nat.le_refl _⟩, ⟨by (with_reducible repeat (first | refine blk_drewN ?_ _ | refine blk_drew ?_ | refine blk_alloc ?_ _)); exact BK182.out⟩, ⟨by (with_reducible repeat (first | refine blk_drewN ?_ _ | refine blk_drew ?_ | refine blk_alloc ?_ _)); exact BK183.out⟩, ⟨by repeat (first | (with_reducible first | exact HB.out | apply below_alloc | apply pw_below_drewN | apply below_drew1 | refine below_set ?_ GE182.out | refine below_set ?_ GE183.out) | exact HB.out)⟩⟩
        · rw [if_neg c14] at H
          have c14b0 : decide (3000 < (l1_3.length : Int)) = false := decide_eq_false c14
          have c14b1 : decide (3000 < l1_3.length) = false := decide_eq_false (by omega)
          clear c14
          have H' := Aside0.mk H
          clear H
          have hnb18 := NB182_183.out
          have hnc18 := NB183_182.out
          have hcz19_0 : w10.cell? ⟨gb182, 0, none⟩ = some (.int .i64 a0_0) := (blk_cell BK182.out 0).trans rfl
          have hcz19_1 : w10.cell? ⟨gb182, 1, none⟩ = some (.int .u64 a0_1) := (blk_cell BK182.out 1).trans rfl
          have hcz19_2 : w10.cell? ⟨gb182, 2, none⟩ = some (.int .u64 a0_2) := (blk_cell BK182.out 2).trans rfl
          have hcz19_3 : w10.cell? ⟨gb182, 3, none⟩ = some (.slice A0_3 l0_3.length c0_3) := (blk_cell BK182.out 3).trans rfl
          have hfz19_0 := blk_frozen BK182.out 0
          have hfz19_1 := blk_frozen BK182.out 1
          have hfz19_2 := blk_frozen BK182.out 2
          have hfz19_3 := blk_frozen BK182.out 3
          have hcz20_0 : w10.cell? ⟨gb183, 0, none⟩ = some (.int .i64 a1_0) := (blk_cell BK183.out 0).trans rfl
          have hcz20_1 : w10.cell? ⟨gb183, 1, none⟩ = some (.int .u64 a1_1) := (blk_cell BK183.out 1).trans rfl
          have hcz20_2 : w10.cell? ⟨gb183, 2, none⟩ = some (.int .u64 a1_2) := (blk_cell BK183.out 2).trans rfl
          have hcz20_3 : w10.cell? ⟨gb183, 3, none⟩ = some (.slice A1_3 l1_3.length c1_3) := (blk_cell BK183.out 3).trans rfl
          have hfz20_0 := blk_frozen BK183.out 0
          have hfz20_1 := blk_frozen BK183.out 1
          have hfz20_2 := blk_frozen BK183.out 2
          have hfz20_3 := blk_frozen BK183.out 3
          go_wp2
          go_meet
          case rel => exact ⟨_, (decide ((l2.length : Int) > 3000)), (by first | rfl | (simp; done) | (simp [*]; done)), H', ⟨by first | omega | exact Nat.le_refl _⟩, ⟨by (with_reducible repeat (first | refine blk_drewN ?_ _ | refine blk_drew ?_ | refine blk_alloc ?_ _)); exact BK182.out⟩, ⟨by (with_reducible repeat (first | refine blk_drewN ?_ _ | refine blk_drew ?_ | refine blk_alloc ?_ _)); exact BK183.out⟩, ⟨by repeat (first | (with_reducible first | exact HB.out | apply below_alloc | apply pw_below_drewN | apply below_drew1 | refine below_set ?_ GE182.out | refine below_set ?_ GE183.out) | exact HB.out)⟩⟩
    case rest =>
      clear HC7
      try clear c1
      try clear c2
      try clear p2
      try clear c3
      try clear c6
      try clear c10
      try clear c11
      try clear c11b0
      try clear c11b1
      try clear c12
      try clear c14
      try clear c14b0
      try clear c14b1
      try clear c15
      try clear c18
      try clear hcz13_0
      try clear hcz13_1
      try clear hcz13_2
      try clear hcz13_3
      try clear hcz16_0
      try clear hcz16_1
      try clear hcz16_2
      try clear hcz16_3
      try clear hcz17_0
      try clear hcz17_1
      try clear hcz17_2
      try clear hcz17_3
      try clear hcz19_0
      try clear hcz19_1
      try clear hcz19_2
      try clear hcz19_3
      try clear hcz20_0
      try clear hcz20_1
      try clear hcz20_2
      try clear hcz20_3
      try clear hfz13_0
      try clear hfz13_1
      try clear hfz13_2
      try clear hfz13_3
      try clear hfz16_0
      try clear hfz16_1
      try clear hfz16_2
      try clear hfz16_3
      try clear hfz17_0
      try clear hfz17_1
      try clear hfz17_2
      try clear hfz17_3
      try clear hfz19_0
      try clear hfz19_1
      try clear hfz19_2
      try clear hfz19_3
      try clear hfz20_0
      try clear hfz20_1
      try clear hfz20_2
      try clear hfz20_3
      obtain ⟨kq, x35_6, rfl, HA, HJ6, BK182, BK183, HB⟩ := hcut
      cases kq with
      | zero => exact absurd HA.out (by simp [tiklaw15_RecTells.j0])
      | succ kj6 =>
        have H := HA.out
        clear HA
        simp only [tiklaw15_RecTells.j0] at H
        by_cases c21 : x35_6 = true
        · subst c21
          have H1 : ((tiklaw15_first.f kj6).bind fun t185 => (some t185)) = some r := by rw [if_pos rfl] at H; exact H
          clear H
          have H := H1
          clear H1
          replace H := Option.bind_eq_some_iff.mp H
          obtain ⟨t185, A220, H⟩ := H
          replace H : (some t185) = some r := H
          have A22 := Aside0.mk A220
          clear A220
          obtain rfl := Option.some.inj H
          go_wp2_with (first | ((with_reducible refine gate_callee (f := 10) rfl ?_); refine goesL_ (some 36) rfl rfl Try.func10 (by kernel_rfl) rfl #[] rfl (by (try simp only [List.map_toArray, List.map_cons, List.map_nil]); first | done | rfl | (simp only [List.length_drop, List.length_take]; rfl)) ?_; (with_reducible refine (tiklaw15_first.calls kj6  t185 _ A22.out).mono ?_); rintro e w23 ⟨rfl, hb⟩; refine ⟨_, rfl, ?_⟩; have n0_ := Aside0.mk (blk_below (g := gb182) (o := .cells #[.int .i64 a0_0, .int .u64 a0_1, .int .u64 a0_2, .slice A0_3 l0_3.length c0_3] 25 (0, 0)) (by (with_reducible repeat (first | refine blk_drewN ?_ _ | refine blk_drew ?_ | refine blk_alloc ?_ _)); exact BK182.out) hb); have n1_ := Aside0.mk (blk_below (g := gb183) (o := .cells #[.int .i64 a1_0, .int .u64 a1_1, .int .u64 a1_2, .slice A1_3 l1_3.length c1_3] 25 (0, 0)) (by (with_reducible repeat (first | refine blk_drewN ?_ _ | refine blk_drew ?_ | refine blk_alloc ?_ _)); exact BK183.out) hb); have n2_ := Aside0.mk (below_step (by repeat (first | (with_reducible first | exact HB.out | apply below_alloc | apply pw_below_drewN | apply below_drew1 | refine below_set ?_ GE182.out | refine below_set ?_ GE183.out) | exact HB.out)) hb); clear BK182; clear BK183; clear HB; have BK182 := n0_; have BK183 := n1_; have HB := n2_; clear n0_ n1_ n2_; (try clear hb); (try clear hb2); (try clear hk); (try clear hi)))
          go_ret
          exact ⟨by first | rfl | (simp [errW_none, errW_some] <;> rfl) | (simp [*, errW_none, errW_some] <;> rfl), by repeat (first | (with_reducible first | exact HB.out | apply below_alloc | apply pw_below_drewN | apply below_drew1 | refine below_set ?_ GE182.out | refine below_set ?_ GE183.out) | exact HB.out)⟩
        · replace c21 := Bool.eq_false_iff.mpr c21
          subst c21
          have H1 : ((rec_Encode.f kj6 a0_0 a0_1 a0_2 l0_3).bind fun bt186 => ((tiklaw15_Plain.f a0_0 a0_1 a0_2 l0_3).bind fun bt190 => ((tikref13_EncodeRecord.f kj6 bt190.1 bt190.2.1 bt190.2.2.1 bt190.2.2.2).bind fun bt196 => ((rec_Decode.f l2 a3).bind fun bt200 => ((tikref13_DecodeRecord.f l2 a3).bind fun bt209 => ((tiklaw15_first.f kj6).bind fun t218 => (if t218 = true then ((tikref_Bytes.f bt186.1 bt196.1).bind fun t219 => (if t219 = true then (if bt186.2 = bt196.2 then ((tiklaw15_Plain.f bt200.1 bt200.2.1 bt200.2.2.1 bt200.2.2.2.1).bind fun bt220 => ((tikref13_SameRecord.f bt220.1 bt220.2.1 bt220.2.2.1 bt220.2.2.2 bt209.1 bt209.2.1 bt209.2.2.1 bt209.2.2.2.1).bind fun t226 => (if t226 = true then (if bt200.2.2.2.2.1 = bt209.2.2.2.2.1 then (if bt200.2.2.2.2.2 = bt209.2.2.2.2.2 then ((rec_May.f a0_0 a0_1 a0_2 l0_3).bind fun t227 => ((tiklaw15_Plain.f a0_0 a0_1 a0_2 l0_3).bind fun bt228 => ((tikref13_MayRecord.f bt228.1 bt228.2.1 bt228.2.2.1 bt228.2.2.2).bind fun t234 => (if (t227 == t234) = true then ((rec_Same.f a0_0 a0_1 a0_2 l0_3 a1_0 a1_1 a1_2 l1_3).bind fun t235 => ((tiklaw15_Plain.f a0_0 a0_1 a0_2 l0_3).bind fun bt236 => ((tiklaw15_Plain.f a1_0 a1_1 a1_2 l1_3).bind fun bt242 => ((tikref13_SameRecord.f bt236.1 bt236.2.1 bt236.2.2.1 bt236.2.2.2 bt242.1 bt242.2.1 bt242.2.2.1 bt242.2.2.2).bind fun t248 => (some (t235 == t248)))))) else (some false))))) else (some false)) else (some false)) else (some false)))) else (some false)) else (some false))) else (some false)))))))) = some r := by rw [if_neg (show ¬ (false = true) by decide)] at H; exact H
          clear H
          have H := H1
          clear H1
          replace H := Option.bind_eq_some_iff.mp H
          obtain ⟨⟨t186, t189⟩, A240, H⟩ := H
          replace H : ((tiklaw15_Plain.f a0_0 a0_1 a0_2 l0_3).bind fun bt190 => ((tikref13_EncodeRecord.f kj6 bt190.1 bt190.2.1 bt190.2.2.1 bt190.2.2.2).bind fun bt196 => ((rec_Decode.f l2 a3).bind fun bt200 => ((tikref13_DecodeRecord.f l2 a3).bind fun bt209 => ((tiklaw15_first.f kj6).bind fun t218 => (if t218 = true then ((tikref_Bytes.f t186 bt196.1).bind fun t219 => (if t219 = true then (if t189 = bt196.2 then ((tiklaw15_Plain.f bt200.1 bt200.2.1 bt200.2.2.1 bt200.2.2.2.1).bind fun bt220 => ((tikref13_SameRecord.f bt220.1 bt220.2.1 bt220.2.2.1 bt220.2.2.2 bt209.1 bt209.2.1 bt209.2.2.1 bt209.2.2.2.1).bind fun t226 => (if t226 = true then (if bt200.2.2.2.2.1 = bt209.2.2.2.2.1 then (if bt200.2.2.2.2.2 = bt209.2.2.2.2.2 then ((rec_May.f a0_0 a0_1 a0_2 l0_3).bind fun t227 => ((tiklaw15_Plain.f a0_0 a0_1 a0_2 l0_3).bind fun bt228 => ((tikref13_MayRecord.f bt228.1 bt228.2.1 bt228.2.2.1 bt228.2.2.2).bind fun t234 => (if (t227 == t234) = true then ((rec_Same.f a0_0 a0_1 a0_2 l0_3 a1_0 a1_1 a1_2 l1_3).bind fun t235 => ((tiklaw15_Plain.f a0_0 a0_1 a0_2 l0_3).bind fun bt236 => ((tiklaw15_Plain.f a1_0 a1_1 a1_2 l1_3).bind fun bt242 => ((tikref13_SameRecord.f bt236.1 bt236.2.1 bt236.2.2.1 bt236.2.2.2 bt242.1 bt242.2.1 bt242.2.2.1 bt242.2.2.2).bind fun t248 => (some (t235 == t248)))))) else (some false))))) else (some false)) else (some false)) else (some false)))) else (some false)) else (some false))) else (some false))))))) = some r := H
          have A24 := Aside0.mk A240
          clear A240
          replace H := Option.bind_eq_some_iff.mp H
          obtain ⟨⟨t190, t191, t192, t193⟩, A250, H⟩ := H
          replace H : ((tikref13_EncodeRecord.f kj6 t190 t191 t192 t193).bind fun bt196 => ((rec_Decode.f l2 a3).bind fun bt200 => ((tikref13_DecodeRecord.f l2 a3).bind fun bt209 => ((tiklaw15_first.f kj6).bind fun t218 => (if t218 = true then ((tikref_Bytes.f t186 bt196.1).bind fun t219 => (if t219 = true then (if t189 = bt196.2 then ((tiklaw15_Plain.f bt200.1 bt200.2.1 bt200.2.2.1 bt200.2.2.2.1).bind fun bt220 => ((tikref13_SameRecord.f bt220.1 bt220.2.1 bt220.2.2.1 bt220.2.2.2 bt209.1 bt209.2.1 bt209.2.2.1 bt209.2.2.2.1).bind fun t226 => (if t226 = true then (if bt200.2.2.2.2.1 = bt209.2.2.2.2.1 then (if bt200.2.2.2.2.2 = bt209.2.2.2.2.2 then ((rec_May.f a0_0 a0_1 a0_2 l0_3).bind fun t227 => ((tiklaw15_Plain.f a0_0 a0_1 a0_2 l0_3).bind fun bt228 => ((tikref13_MayRecord.f bt228.1 bt228.2.1 bt228.2.2.1 bt228.2.2.2).bind fun t234 => (if (t227 == t234) = true then ((rec_Same.f a0_0 a0_1 a0_2 l0_3 a1_0 a1_1 a1_2 l1_3).bind fun t235 => ((tiklaw15_Plain.f a0_0 a0_1 a0_2 l0_3).bind fun bt236 => ((tiklaw15_Plain.f a1_0 a1_1 a1_2 l1_3).bind fun bt242 => ((tikref13_SameRecord.f bt236.1 bt236.2.1 bt236.2.2.1 bt236.2.2.2 bt242.1 bt242.2.1 bt242.2.2.1 bt242.2.2.2).bind fun t248 => (some (t235 == t248)))))) else (some false))))) else (some false)) else (some false)) else (some false)))) else (some false)) else (some false))) else (some false)))))) = some r := H
          have A25 := Aside0.mk A250
          clear A250
          replace H := Option.bind_eq_some_iff.mp H
          obtain ⟨⟨t196, t199⟩, A260, H⟩ := H
          replace H : ((rec_Decode.f l2 a3).bind fun bt200 => ((tikref13_DecodeRecord.f l2 a3).bind fun bt209 => ((tiklaw15_first.f kj6).bind fun t218 => (if t218 = true then ((tikref_Bytes.f t186 t196).bind fun t219 => (if t219 = true then (if t189 = t199 then ((tiklaw15_Plain.f bt200.1 bt200.2.1 bt200.2.2.1 bt200.2.2.2.1).bind fun bt220 => ((tikref13_SameRecord.f bt220.1 bt220.2.1 bt220.2.2.1 bt220.2.2.2 bt209.1 bt209.2.1 bt209.2.2.1 bt209.2.2.2.1).bind fun t226 => (if t226 = true then (if bt200.2.2.2.2.1 = bt209.2.2.2.2.1 then (if bt200.2.2.2.2.2 = bt209.2.2.2.2.2 then ((rec_May.f a0_0 a0_1 a0_2 l0_3).bind fun t227 => ((tiklaw15_Plain.f a0_0 a0_1 a0_2 l0_3).bind fun bt228 => ((tikref13_MayRecord.f bt228.1 bt228.2.1 bt228.2.2.1 bt228.2.2.2).bind fun t234 => (if (t227 == t234) = true then ((rec_Same.f a0_0 a0_1 a0_2 l0_3 a1_0 a1_1 a1_2 l1_3).bind fun t235 => ((tiklaw15_Plain.f a0_0 a0_1 a0_2 l0_3).bind fun bt236 => ((tiklaw15_Plain.f a1_0 a1_1 a1_2 l1_3).bind fun bt242 => ((tikref13_SameRecord.f bt236.1 bt236.2.1 bt236.2.2.1 bt236.2.2.2 bt242.1 bt242.2.1 bt242.2.2.1 bt242.2.2.2).bind fun t248 => (some (t235 == t248)))))) else (some false))))) else (some false)) else (some false)) else (some false)))) else (some false)) else (some false))) else (some false))))) = some r := H
          have A26 := Aside0.mk A260
          clear A260
          replace H := Option.bind_eq_some_iff.mp H
          obtain ⟨⟨t200, t201, t202, t203, t206, t207⟩, A270, H⟩ := H
          replace H : ((tikref13_DecodeRecord.f l2 a3).bind fun bt209 => ((tiklaw15_first.f kj6).bind fun t218 => (if t218 = true then ((tikref_Bytes.f t186 t196).bind fun t219 => (if t219 = true then (if t189 = t199 then ((tiklaw15_Plain.f t200 t201 t202 t203).bind fun bt220 => ((tikref13_SameRecord.f bt220.1 bt220.2.1 bt220.2.2.1 bt220.2.2.2 bt209.1 bt209.2.1 bt209.2.2.1 bt209.2.2.2.1).bind fun t226 => (if t226 = true then (if t206 = bt209.2.2.2.2.1 then (if t207 = bt209.2.2.2.2.2 then ((rec_May.f a0_0 a0_1 a0_2 l0_3).bind fun t227 => ((tiklaw15_Plain.f a0_0 a0_1 a0_2 l0_3).bind fun bt228 => ((tikref13_MayRecord.f bt228.1 bt228.2.1 bt228.2.2.1 bt228.2.2.2).bind fun t234 => (if (t227 == t234) = true then ((rec_Same.f a0_0 a0_1 a0_2 l0_3 a1_0 a1_1 a1_2 l1_3).bind fun t235 => ((tiklaw15_Plain.f a0_0 a0_1 a0_2 l0_3).bind fun bt236 => ((tiklaw15_Plain.f a1_0 a1_1 a1_2 l1_3).bind fun bt242 => ((tikref13_SameRecord.f bt236.1 bt236.2.1 bt236.2.2.1 bt236.2.2.2 bt242.1 bt242.2.1 bt242.2.2.1 bt242.2.2.2).bind fun t248 => (some (t235 == t248)))))) else (some false))))) else (some false)) else (some false)) else (some false)))) else (some false)) else (some false))) else (some false)))) = some r := H
          have A27 := Aside0.mk A270
          clear A270
          replace H := Option.bind_eq_some_iff.mp H
          obtain ⟨⟨t209, t210, t211, t212, t215, t216⟩, A280, H⟩ := H
          replace H : ((tiklaw15_first.f kj6).bind fun t218 => (if t218 = true then ((tikref_Bytes.f t186 t196).bind fun t219 => (if t219 = true then (if t189 = t199 then ((tiklaw15_Plain.f t200 t201 t202 t203).bind fun bt220 => ((tikref13_SameRecord.f bt220.1 bt220.2.1 bt220.2.2.1 bt220.2.2.2 t209 t210 t211 t212).bind fun t226 => (if t226 = true then (if t206 = t215 then (if t207 = t216 then ((rec_May.f a0_0 a0_1 a0_2 l0_3).bind fun t227 => ((tiklaw15_Plain.f a0_0 a0_1 a0_2 l0_3).bind fun bt228 => ((tikref13_MayRecord.f bt228.1 bt228.2.1 bt228.2.2.1 bt228.2.2.2).bind fun t234 => (if (t227 == t234) = true then ((rec_Same.f a0_0 a0_1 a0_2 l0_3 a1_0 a1_1 a1_2 l1_3).bind fun t235 => ((tiklaw15_Plain.f a0_0 a0_1 a0_2 l0_3).bind fun bt236 => ((tiklaw15_Plain.f a1_0 a1_1 a1_2 l1_3).bind fun bt242 => ((tikref13_SameRecord.f bt236.1 bt236.2.1 bt236.2.2.1 bt236.2.2.2 bt242.1 bt242.2.1 bt242.2.2.1 bt242.2.2.2).bind fun t248 => (some (t235 == t248)))))) else (some false))))) else (some false)) else (some false)) else (some false)))) else (some false)) else (some false))) else (some false))) = some r := H
          have A28 := Aside0.mk A280
          clear A280
          replace H := Option.bind_eq_some_iff.mp H
          obtain ⟨t218, A290, H⟩ := H
          replace H : (if t218 = true then ((tikref_Bytes.f t186 t196).bind fun t219 => (if t219 = true then (if t189 = t199 then ((tiklaw15_Plain.f t200 t201 t202 t203).bind fun bt220 => ((tikref13_SameRecord.f bt220.1 bt220.2.1 bt220.2.2.1 bt220.2.2.2 t209 t210 t211 t212).bind fun t226 => (if t226 = true then (if t206 = t215 then (if t207 = t216 then ((rec_May.f a0_0 a0_1 a0_2 l0_3).bind fun t227 => ((tiklaw15_Plain.f a0_0 a0_1 a0_2 l0_3).bind fun bt228 => ((tikref13_MayRecord.f bt228.1 bt228.2.1 bt228.2.2.1 bt228.2.2.2).bind fun t234 => (if (t227 == t234) = true then ((rec_Same.f a0_0 a0_1 a0_2 l0_3 a1_0 a1_1 a1_2 l1_3).bind fun t235 => ((tiklaw15_Plain.f a0_0 a0_1 a0_2 l0_3).bind fun bt236 => ((tiklaw15_Plain.f a1_0 a1_1 a1_2 l1_3).bind fun bt242 => ((tikref13_SameRecord.f bt236.1 bt236.2.1 bt236.2.2.1 bt236.2.2.2 bt242.1 bt242.2.1 bt242.2.2.1 bt242.2.2.2).bind fun t248 => (some (t235 == t248)))))) else (some false))))) else (some false)) else (some false)) else (some false)))) else (some false)) else (some false))) else (some false)) = some r := H
          have A29 := Aside0.mk A290
          clear A290
          by_cases c30 : t218 = true
          · subst c30
            have H1 : ((tikref_Bytes.f t186 t196).bind fun t219 => (if t219 = true then (if t189 = t199 then ((tiklaw15_Plain.f t200 t201 t202 t203).bind fun bt220 => ((tikref13_SameRecord.f bt220.1 bt220.2.1 bt220.2.2.1 bt220.2.2.2 t209 t210 t211 t212).bind fun t226 => (if t226 = true then (if t206 = t215 then (if t207 = t216 then ((rec_May.f a0_0 a0_1 a0_2 l0_3).bind fun t227 => ((tiklaw15_Plain.f a0_0 a0_1 a0_2 l0_3).bind fun bt228 => ((tikref13_MayRecord.f bt228.1 bt228.2.1 bt228.2.2.1 bt228.2.2.2).bind fun t234 => (if (t227 == t234) = true then ((rec_Same.f a0_0 a0_1 a0_2 l0_3 a1_0 a1_1 a1_2 l1_3).bind fun t235 => ((tiklaw15_Plain.f a0_0 a0_1 a0_2 l0_3).bind fun bt236 => ((tiklaw15_Plain.f a1_0 a1_1 a1_2 l1_3).bind fun bt242 => ((tikref13_SameRecord.f bt236.1 bt236.2.1 bt236.2.2.1 bt236.2.2.2 bt242.1 bt242.2.1 bt242.2.2.1 bt242.2.2.2).bind fun t248 => (some (t235 == t248)))))) else (some false))))) else (some false)) else (some false)) else (some false)))) else (some false)) else (some false))) = some r := by rw [if_pos rfl] at H; exact H
            clear H
            have H := H1
            clear H1
            replace H := Option.bind_eq_some_iff.mp H
            obtain ⟨t219, A310, H⟩ := H
            replace H : (if t219 = true then (if t189 = t199 then ((tiklaw15_Plain.f t200 t201 t202 t203).bind fun bt220 => ((tikref13_SameRecord.f bt220.1 bt220.2.1 bt220.2.2.1 bt220.2.2.2 t209 t210 t211 t212).bind fun t226 => (if t226 = true then (if t206 = t215 then (if t207 = t216 then ((rec_May.f a0_0 a0_1 a0_2 l0_3).bind fun t227 => ((tiklaw15_Plain.f a0_0 a0_1 a0_2 l0_3).bind fun bt228 => ((tikref13_MayRecord.f bt228.1 bt228.2.1 bt228.2.2.1 bt228.2.2.2).bind fun t234 => (if (t227 == t234) = true then ((rec_Same.f a0_0 a0_1 a0_2 l0_3 a1_0 a1_1 a1_2 l1_3).bind fun t235 => ((tiklaw15_Plain.f a0_0 a0_1 a0_2 l0_3).bind fun bt236 => ((tiklaw15_Plain.f a1_0 a1_1 a1_2 l1_3).bind fun bt242 => ((tikref13_SameRecord.f bt236.1 bt236.2.1 bt236.2.2.1 bt236.2.2.2 bt242.1 bt242.2.1 bt242.2.2.1 bt242.2.2.2).bind fun t248 => (some (t235 == t248)))))) else (some false))))) else (some false)) else (some false)) else (some false)))) else (some false)) else (some false)) = some r := H
            have A31 := Aside0.mk A310
            clear A310
            by_cases c32 : t219 = true
            · subst c32
              have H1 : (if t189 = t199 then ((tiklaw15_Plain.f t200 t201 t202 t203).bind fun bt220 => ((tikref13_SameRecord.f bt220.1 bt220.2.1 bt220.2.2.1 bt220.2.2.2 t209 t210 t211 t212).bind fun t226 => (if t226 = true then (if t206 = t215 then (if t207 = t216 then ((rec_May.f a0_0 a0_1 a0_2 l0_3).bind fun t227 => ((tiklaw15_Plain.f a0_0 a0_1 a0_2 l0_3).bind fun bt228 => ((tikref13_MayRecord.f bt228.1 bt228.2.1 bt228.2.2.1 bt228.2.2.2).bind fun t234 => (if (t227 == t234) = true then ((rec_Same.f a0_0 a0_1 a0_2 l0_3 a1_0 a1_1 a1_2 l1_3).bind fun t235 => ((tiklaw15_Plain.f a0_0 a0_1 a0_2 l0_3).bind fun bt236 => ((tiklaw15_Plain.f a1_0 a1_1 a1_2 l1_3).bind fun bt242 => ((tikref13_SameRecord.f bt236.1 bt236.2.1 bt236.2.2.1 bt236.2.2.2 bt242.1 bt242.2.1 bt242.2.2.1 bt242.2.2.2).bind fun t248 => (some (t235 == t248)))))) else (some false))))) else (some false)) else (some false)) else (some false)))) else (some false)) = some r := by rw [if_pos rfl] at H; exact H
              clear H
              have H := H1
              clear H1
              by_cases c33 : t189 = t199
              · rw [if_pos c33] at H
                have c33b0 : (t189 == t199) = true := beq_iff_eq.mpr c33
                have c33b1 : (t189 != t199) = false := bne_eq_false_iff_eq.mpr c33
                clear c33
                replace H := Option.bind_eq_some_iff.mp H
                obtain ⟨⟨t220, t221, t222, t223⟩, A340, H⟩ := H
                replace H : ((tikref13_SameRecord.f t220 t221 t222 t223 t209 t210 t211 t212).bind fun t226 => (if t226 = true then (if t206 = t215 then (if t207 = t216 then ((rec_May.f a0_0 a0_1 a0_2 l0_3).bind fun t227 => ((tiklaw15_Plain.f a0_0 a0_1 a0_2 l0_3).bind fun bt228 => ((tikref13_MayRecord.f bt228.1 bt228.2.1 bt228.2.2.1 bt228.2.2.2).bind fun t234 => (if (t227 == t234) = true then ((rec_Same.f a0_0 a0_1 a0_2 l0_3 a1_0 a1_1 a1_2 l1_3).bind fun t235 => ((tiklaw15_Plain.f a0_0 a0_1 a0_2 l0_3).bind fun bt236 => ((tiklaw15_Plain.f a1_0 a1_1 a1_2 l1_3).bind fun bt242 => ((tikref13_SameRecord.f bt236.1 bt236.2.1 bt236.2.2.1 bt236.2.2.2 bt242.1 bt242.2.1 bt242.2.2.1 bt242.2.2.2).bind fun t248 => (some (t235 == t248)))))) else (some false))))) else (some false)) else (some false)) else (some false))) = some r := H
                have A34 := Aside0.mk A340
                clear A340
                replace H := Option.bind_eq_some_iff.mp H
                obtain ⟨t226, A350, H⟩ := H
                replace H : (if t226 = true then (if t206 = t215 then (if t207 = t216 then ((rec_May.f a0_0 a0_1 a0_2 l0_3).bind fun t227 => ((tiklaw15_Plain.f a0_0 a0_1 a0_2 l0_3).bind fun bt228 => ((tikref13_MayRecord.f bt228.1 bt228.2.1 bt228.2.2.1 bt228.2.2.2).bind fun t234 => (if (t227 == t234) = true then ((rec_Same.f a0_0 a0_1 a0_2 l0_3 a1_0 a1_1 a1_2 l1_3).bind fun t235 => ((tiklaw15_Plain.f a0_0 a0_1 a0_2 l0_3).bind fun bt236 => ((tiklaw15_Plain.f a1_0 a1_1 a1_2 l1_3).bind fun bt242 => ((tikref13_SameRecord.f bt236.1 bt236.2.1 bt236.2.2.1 bt236.2.2.2 bt242.1 bt242.2.1 bt242.2.2.1 bt242.2.2.2).bind fun t248 => (some (t235 == t248)))))) else (some false))))) else (some false)) else (some false)) else (some false)) = some r := H
                have A35 := Aside0.mk A350
                clear A350
                by_cases c36 : t226 = true
                · subst c36
                  have H1 : (if t206 = t215 then (if t207 = t216 then ((rec_May.f a0_0 a0_1 a0_2 l0_3).bind fun t227 => ((tiklaw15_Plain.f a0_0 a0_1 a0_2 l0_3).bind fun bt228 => ((tikref13_MayRecord.f bt228.1 bt228.2.1 bt228.2.2.1 bt228.2.2.2).bind fun t234 => (if (t227 == t234) = true then ((rec_Same.f a0_0 a0_1 a0_2 l0_3 a1_0 a1_1 a1_2 l1_3).bind fun t235 => ((tiklaw15_Plain.f a0_0 a0_1 a0_2 l0_3).bind fun bt236 => ((tiklaw15_Plain.f a1_0 a1_1 a1_2 l1_3).bind fun bt242 => ((tikref13_SameRecord.f bt236.1 bt236.2.1 bt236.2.2.1 bt236.2.2.2 bt242.1 bt242.2.1 bt242.2.2.1 bt242.2.2.2).bind fun t248 => (some (t235 == t248)))))) else (some false))))) else (some false)) else (some false)) = some r := by rw [if_pos rfl] at H; exact H
                  clear H
                  have H := H1
                  clear H1
                  by_cases c37 : t206 = t215
                  · rw [if_pos c37] at H
                    have c37b0 : (t206 == t215) = true := beq_iff_eq.mpr c37
                    have c37b1 : (t206 != t215) = false := bne_eq_false_iff_eq.mpr c37
                    clear c37
                    by_cases c38 : t207 = t216
                    · rw [if_pos c38] at H
                      have c38b0 : (t207 == t216) = true := beq_iff_eq.mpr c38
                      have c38b1 : (t207 != t216) = false := bne_eq_false_iff_eq.mpr c38
                      clear c38
                      replace H := Option.bind_eq_some_iff.mp H
                      obtain ⟨t227, A390, H⟩ := H
                      replace H : ((tiklaw15_Plain.f a0_0 a0_1 a0_2 l0_3).bind fun bt228 => ((tikref13_MayRecord.f bt228.1 bt228.2.1 bt228.2.2.1 bt228.2.2.2).bind fun t234 => (if (t227 == t234) = true then ((rec_Same.f a0_0 a0_1 a0_2 l0_3 a1_0 a1_1 a1_2 l1_3).bind fun t235 => ((tiklaw15_Plain.f a0_0 a0_1 a0_2 l0_3).bind fun bt236 => ((tiklaw15_Plain.f a1_0 a1_1 a1_2 l1_3).bind fun bt242 => ((tikref13_SameRecord.f bt236.1 bt236.2.1 bt236.2.2.1 bt236.2.2.2 bt242.1 bt242.2.1 bt242.2.2.1 bt242.2.2.2).bind fun t248 => (some (t235 == t248)))))) else (some false)))) = some r := H
                      have A39 := Aside0.mk A390
                      clear A390
                      replace H := Option.bind_eq_some_iff.mp H
                      obtain ⟨⟨t228, t229, t230, t231⟩, A400, H⟩ := H
                      replace H : ((tikref13_MayRecord.f t228 t229 t230 t231).bind fun t234 => (if (t227 == t234) = true then ((rec_Same.f a0_0 a0_1 a0_2 l0_3 a1_0 a1_1 a1_2 l1_3).bind fun t235 => ((tiklaw15_Plain.f a0_0 a0_1 a0_2 l0_3).bind fun bt236 => ((tiklaw15_Plain.f a1_0 a1_1 a1_2 l1_3).bind fun bt242 => ((tikref13_SameRecord.f bt236.1 bt236.2.1 bt236.2.2.1 bt236.2.2.2 bt242.1 bt242.2.1 bt242.2.2.1 bt242.2.2.2).bind fun t248 => (some (t235 == t248)))))) else (some false))) = some r := H
                      have A40 := Aside0.mk A400
                      clear A400
                      replace H := Option.bind_eq_some_iff.mp H
                      obtain ⟨t234, A410, H⟩ := H
                      replace H : (if (t227 == t234) = true then ((rec_Same.f a0_0 a0_1 a0_2 l0_3 a1_0 a1_1 a1_2 l1_3).bind fun t235 => ((tiklaw15_Plain.f a0_0 a0_1 a0_2 l0_3).bind fun bt236 => ((tiklaw15_Plain.f a1_0 a1_1 a1_2 l1_3).bind fun bt242 => ((tikref13_SameRecord.f bt236.1 bt236.2.1 bt236.2.2.1 bt236.2.2.2 bt242.1 bt242.2.1 bt242.2.2.1 bt242.2.2.2).bind fun t248 => (some (t235 == t248)))))) else (some false)) = some r := H
                      have A41 := Aside0.mk A410
                      clear A410
                      by_cases c42 : (t227 == t234) = true
                      · rw [if_pos c42] at H
                        have c42b0 : (t227 == t234) = true := c42
                        (try (have c42b1 : decide (t227 = t234) = true := by simpa using c42))
                        (try (have c42b2 : (t227 == t234) = true := by simpa using c42))
                        clear c42
                        replace H := Option.bind_eq_some_iff.mp H
                        obtain ⟨t235, A430, H⟩ := H
                        replace H : ((tiklaw15_Plain.f a0_0 a0_1 a0_2 l0_3).bind fun bt236 => ((tiklaw15_Plain.f a1_0 a1_1 a1_2 l1_3).bind fun bt242 => ((tikref13_SameRecord.f bt236.1 bt236.2.1 bt236.2.2.1 bt236.2.2.2 bt242.1 bt242.2.1 bt242.2.2.1 bt242.2.2.2).bind fun t248 => (some (t235 == t248))))) = some r := H
                        have A43 := Aside0.mk A430
                        clear A430
                        replace H := Option.bind_eq_some_iff.mp H
                        obtain ⟨⟨t236, t237, t238, t239⟩, A440, H⟩ := H
                        replace H : ((tiklaw15_Plain.f a1_0 a1_1 a1_2 l1_3).bind fun bt242 => ((tikref13_SameRecord.f t236 t237 t238 t239 bt242.1 bt242.2.1 bt242.2.2.1 bt242.2.2.2).bind fun t248 => (some (t235 == t248)))) = some r := H
                        have A44 := Aside0.mk A440
                        clear A440
                        replace H := Option.bind_eq_some_iff.mp H
                        obtain ⟨⟨t242, t243, t244, t245⟩, A450, H⟩ := H
                        replace H : ((tikref13_SameRecord.f t236 t237 t238 t239 t242 t243 t244 t245).bind fun t248 => (some (t235 == t248))) = some r := H
                        have A45 := Aside0.mk A450
                        clear A450
                        replace H := Option.bind_eq_some_iff.mp H
                        obtain ⟨t248, A460, H⟩ := H
                        replace H : (some (t235 == t248)) = some r := H
                        have A46 := Aside0.mk A460
                        clear A460
                        obtain rfl := Option.some.inj H
                        have hnb47 := NB182_183.out
                        have hnc47 := NB183_182.out
                        have hcz48_0 : wc.cell? ⟨gb182, 0, none⟩ = some (.int .i64 a0_0) := (blk_cell BK182.out 0).trans rfl
                        have hcz48_1 : wc.cell? ⟨gb182, 1, none⟩ = some (.int .u64 a0_1) := (blk_cell BK182.out 1).trans rfl
                        have hcz48_2 : wc.cell? ⟨gb182, 2, none⟩ = some (.int .u64 a0_2) := (blk_cell BK182.out 2).trans rfl
                        have hcz48_3 : wc.cell? ⟨gb182, 3, none⟩ = some (.slice A0_3 l0_3.length c0_3) := (blk_cell BK182.out 3).trans rfl
                        have hfz48_0 := blk_frozen BK182.out 0
                        have hfz48_1 := blk_frozen BK182.out 1
                        have hfz48_2 := blk_frozen BK182.out 2
                        have hfz48_3 := blk_frozen BK182.out 3
                        try go_wp2_with (first | ((with_reducible refine gate_callee (f := 11) rfl ?_); refine goesL_ (some 39) rfl rfl Try.func11 (by kernel_rfl) rfl #[.agg #[.int .i64 a0_0, .int .u64 a0_1, .int .u64 a0_2, .slice A0_3 l0_3.length c0_3]] rfl (by (try simp only [List.map_toArray, List.map_cons, List.map_nil]); first | done | rfl | (simp only [List.length_drop, List.length_take]; rfl)) ?_; (with_reducible refine (rec_Encode.calls kj6 a0_0 a0_1 a0_2 (fun k_ => k_ < w.heap.size) _ _ l0_3 t186 t189 _ ?side1 A24.out).mono ?_); (case side1 => exact Kd.V_mk HC0_3.out (Kd.F_below (Kd.C_F (Kd.heap_int .u8) HR0_3.out) (by repeat (first | (with_reducible first | exact HB.out | apply below_alloc | apply pw_below_drewN | apply below_drew1 | refine below_set ?_ GE182.out | refine below_set ?_ GE183.out) | exact HB.out)))); rintro e w49 ⟨v187, rfl, ho0, hb⟩; refine ⟨_, rfl, ?_⟩; have n0_ := Aside0.mk (Kd.R_lower (Kd.R_mono (ok' := fun k_ => True) ho0 (fun _ hk_ => trivial)) (below_size (by repeat (first | (with_reducible first | exact HB.out | apply below_alloc | apply pw_below_drewN | apply below_drew1 | refine below_set ?_ GE182.out | refine below_set ?_ GE183.out) | exact HB.out)))); have n1_ := Aside0.mk (blk_below (g := gb182) (o := .cells #[.int .i64 a0_0, .int .u64 a0_1, .int .u64 a0_2, .slice A0_3 l0_3.length c0_3] 25 (0, 0)) (by (with_reducible repeat (first | refine blk_drewN ?_ _ | refine blk_drew ?_ | refine blk_alloc ?_ _)); exact BK182.out) hb); have n2_ := Aside0.mk (blk_below (g := gb183) (o := .cells #[.int .i64 a1_0, .int .u64 a1_1, .int .u64 a1_2, .slice A1_3 l1_3.length c1_3] 25 (0, 0)) (by (with_reducible repeat (first | refine blk_drewN ?_ _ | refine blk_drew ?_ | refine blk_alloc ?_ _)); exact BK183.out) hb); have n3_ := Aside0.mk (below_step (by repeat (first | (with_reducible first | exact HB.out | apply below_alloc | apply pw_below_drewN | apply below_drew1 | refine below_set ?_ GE182.out | refine below_set ?_ GE183.out) | exact HB.out)) hb); clear BK182; clear BK183; clear HB; have HO188 := n0_; have BK182 := n1_; have BK183 := n2_; have HB := n3_; clear n0_ n1_ n2_ n3_; (try clear hb); (try clear hb2); (try clear hk); (try clear hi); (try clear ho0); have hcz50_0 : w49.cell? ⟨gb182, 0, none⟩ = some (.int .i64 a0_0) := (blk_cell BK182.out 0).trans rfl; have hcz50_1 : w49.cell? ⟨gb182, 1, none⟩ = some (.int .u64 a0_1) := (blk_cell BK182.out 1).trans rfl; have hcz50_2 : w49.cell? ⟨gb182, 2, none⟩ = some (.int .u64 a0_2) := (blk_cell BK182.out 2).trans rfl; have hcz50_3 : w49.cell? ⟨gb182, 3, none⟩ = some (.slice A0_3 l0_3.length c0_3) := (blk_cell BK182.out 3).trans rfl; have hfz50_0 := blk_frozen BK182.out 0; have hfz50_1 := blk_frozen BK182.out 1; have hfz50_2 := blk_frozen BK182.out 2; have hfz50_3 := blk_frozen BK182.out 3) | ((with_reducible refine gate_callee (f := 13) rfl ?_); refine goesL_ (some 44) rfl rfl Try.func13 (by kernel_rfl) rfl #[.agg #[.int .i64 a0_0, .int .u64 a0_1, .int .u64 a0_2, .slice A0_3 l0_3.length c0_3]] rfl (by (try simp only [List.map_toArray, List.map_cons, List.map_nil]); first | done | rfl | (simp only [List.length_drop, List.length_take]; rfl)) ?_; (with_reducible refine (tiklaw15_Plain.calls a0_0 a0_1 a0_2 (fun k_ => k_ < w.heap.size) _ _ l0_3 t190 t191 t192 t193 _ ?side1 A25.out).mono ?_); (case side1 => exact Kd.V_mk HC0_3.out (Kd.F_below (Kd.C_F (Kd.heap_int .u8) HR0_3.out) (by repeat (first | (with_reducible first | exact HB.out | apply below_alloc | apply pw_below_drewN | apply below_drew1 | refine below_set ?_ GE182.out | refine below_set ?_ GE183.out) | exact HB.out)))); rintro e w51 ⟨v194, rfl, ho0, hb⟩; refine ⟨_, rfl, ?_⟩; have n0_ := Aside0.mk (Kd.R_below (by (with_reducible repeat (first | apply Kd.R_alloc | apply Kd.R_drewN | apply Kd.R_drew)); exact HO188.out) hb); have n1_ := Aside0.mk (Kd.V_lower (Kd.V_mono (ok' := fun k_ => some k_ ≠ (v187 : Value).ownBlock ∧ k_ ≠ gb182 ∧ k_ ≠ gb183) ho0 (fun k_ hk_ => ⟨Or.elim hk_ (fun hs_ => fun e_ => Nat.not_le.2 hs_ (Kd.R_base HO188.out k_ e_.symm)) (fun hn_ => (Kd.fresh' (Kd.R_lt (by (with_reducible repeat (first | apply Kd.R_alloc | apply Kd.R_drewN | apply Kd.R_drew)); exact HO188.out)) k_ hn_)), Or.elim hk_ (fun hs_ => fun e_ => Nat.not_le.2 hs_ (by rw [e_]; exact GW182.out)) (fun hn_ => (Kd.freshB (g := gb182) (o := .cells #[.int .i64 a0_0, .int .u64 a0_1, .int .u64 a0_2, .slice A0_3 l0_3.length c0_3] 25 (0, 0)) (by (with_reducible repeat (first | refine blk_drewN ?_ _ | refine blk_drew ?_ | refine blk_alloc ?_ _)); exact BK182.out) k_ hn_)), Or.elim hk_ (fun hs_ => fun e_ => Nat.not_le.2 hs_ (by rw [e_]; exact GW183.out)) (fun hn_ => (Kd.freshB (g := gb183) (o := .cells #[.int .i64 a1_0, .int .u64 a1_1, .int .u64 a1_2, .slice A1_3 l1_3.length c1_3] 25 (0, 0)) (by (with_reducible repeat (first | refine blk_drewN ?_ _ | refine blk_drew ?_ | refine blk_alloc ?_ _)); exact BK183.out) k_ hn_))⟩)) (below_size (by repeat (first | (with_reducible first | exact HB.out | apply below_alloc | apply pw_below_drewN | apply below_drew1 | refine below_set ?_ GE182.out | refine below_set ?_ GE183.out) | exact HB.out)))); have n2_ := Aside0.mk (blk_below (g := gb182) (o := .cells #[.int .i64 a0_0, .int .u64 a0_1, .int .u64 a0_2, .slice A0_3 l0_3.length c0_3] 25 (0, 0)) (by (with_reducible repeat (first | refine blk_drewN ?_ _ | refine blk_drew ?_ | refine blk_alloc ?_ _)); exact BK182.out) hb); have n3_ := Aside0.mk (blk_below (g := gb183) (o := .cells #[.int .i64 a1_0, .int .u64 a1_1, .int .u64 a1_2, .slice A1_3 l1_3.length c1_3] 25 (0, 0)) (by (with_reducible repeat (first | refine blk_drewN ?_ _ | refine blk_drew ?_ | refine blk_alloc ?_ _)); exact BK183.out) hb); have n4_ := Aside0.mk (below_step (by repeat (first | (with_reducible first | exact HB.out | apply below_alloc | apply pw_below_drewN | apply below_drew1 | refine below_set ?_ GE182.out | refine below_set ?_ GE183.out) | exact HB.out)) hb); clear HO188; clear BK182; clear BK183; clear HB; have HO188 := n0_; have HO195 := n1_; have BK182 := n2_; have BK183 := n3_; have HB := n4_; clear n0_ n1_ n2_ n3_ n4_; (try clear hb); (try clear hb2); (try clear hk); (try clear hi); (try clear ho0); obtain ⟨Ao52, co52, eo52⟩ := Kd.V_slice HO195.out; subst eo52) | ((with_reducible refine gate_callee (f := 12) rfl ?_); refine goesL_ (some 45) rfl rfl Try.func12 (by kernel_rfl) rfl #[.agg #[.int .i64 t190, .int .u64 t191, .int .u64 t192, .slice Ao52 t193.length co52]] rfl (by (try simp only [List.map_toArray, List.map_cons, List.map_nil]); first | done | rfl | (simp only [List.length_drop, List.length_take]; rfl)) ?_; (with_reducible refine (tikref13_EncodeRecord.calls kj6 t190 t191 t192 _ _ t193 t196 t199 _ ?side1 ?side2 A26.out).mono ?_); (case side1 => repeat (first | exact (Kd.V_reads' HO195.out).2.2 | (with_reducible refine Kd.C_alloc ?_ _) | (with_reducible refine Kd.C_drewN ?_ _) | (with_reducible refine Kd.C_drew ?_))); (case side2 => exact (Kd.V_reads' HO195.out).2.1); rintro e w53 ⟨v197, rfl, ho0, hb⟩; refine ⟨_, rfl, ?_⟩; have n0_ := Aside0.mk (Kd.R_elder' (by (with_reducible repeat (first | apply Kd.R_alloc | apply Kd.R_drewN | apply Kd.R_drew)); exact HO188.out) (Kd.R_base ho0) hb); have n1_ := Aside0.mk (Kd.V_elder' (by (with_reducible repeat (first | apply Kd.V_alloc | apply Kd.V_drewN | apply Kd.V_drew)); exact HO195.out) (Kd.R_base ho0) hb); have n2_ := Aside0.mk (Kd.R_lower (Kd.R_new' ho0 (Kd.R_lt (by (with_reducible repeat (first | apply Kd.R_alloc | apply Kd.R_drewN | apply Kd.R_drew)); exact HO188.out))) (below_size (by repeat (first | (with_reducible first | exact HB.out | apply below_alloc | apply pw_below_drewN | apply below_drew1 | refine below_set ?_ GE182.out | refine below_set ?_ GE183.out) | exact HB.out)))); have n3_ := Aside0.mk (blk_below (g := gb182) (o := .cells #[.int .i64 a0_0, .int .u64 a0_1, .int .u64 a0_2, .slice A0_3 l0_3.length c0_3] 25 (0, 0)) (by (with_reducible repeat (first | refine blk_drewN ?_ _ | refine blk_drew ?_ | refine blk_alloc ?_ _)); exact BK182.out) hb); have n4_ := Aside0.mk (blk_below (g := gb183) (o := .cells #[.int .i64 a1_0, .int .u64 a1_1, .int .u64 a1_2, .slice A1_3 l1_3.length c1_3] 25 (0, 0)) (by (with_reducible repeat (first | refine blk_drewN ?_ _ | refine blk_drew ?_ | refine blk_alloc ?_ _)); exact BK183.out) hb); have n5_ := Aside0.mk (below_step (by repeat (first | (with_reducible first | exact HB.out | apply below_alloc | apply pw_below_drewN | apply below_drew1 | refine below_set ?_ GE182.out | refine below_set ?_ GE183.out) | exact HB.out)) hb); clear HO188; clear HO195; clear BK182; clear BK183; clear HB; have HO188 := n0_; have HO195 := n1_; have HO198 := n2_; have BK182 := n3_; have BK183 := n4_; have HB := n5_; clear n0_ n1_ n2_ n3_ n4_ n5_; (try clear hb); (try clear hb2); (try clear hk); (try clear hi); (try clear ho0)) | ((with_reducible refine gate_callee (f := 14) rfl ?_); refine goesL_ (some 51) rfl rfl Try.func14 (by kernel_rfl) rfl #[.slice A2 l2.length c2, .int .i64 a3] rfl (by (try simp only [List.map_toArray, List.map_cons, List.map_nil]); first | done | rfl | (simp only [List.length_drop, List.length_take]; rfl)) ?_; (with_reducible refine (rec_Decode.calls _ _ l2 a3 t200 t201 t202 t203 t206 t207 _ ?side1 ?side2 A27.out).mono ?_); (case side1 => repeat (first | exact (Kd.C_below HR2.out HB.out) | (with_reducible refine Kd.C_alloc ?_ _) | (with_reducible refine Kd.C_drewN ?_ _) | (with_reducible refine Kd.C_drew ?_))); (case side2 => exact HC2.out); rintro e w54 ⟨v204, rfl, ho0, hb⟩; refine ⟨_, rfl, ?_⟩; have n0_ := Aside0.mk (Kd.R_elder' (by (with_reducible repeat (first | apply Kd.R_alloc | apply Kd.R_drewN | apply Kd.R_drew)); exact HO188.out) (Kd.R_base ho0) hb); have n1_ := Aside0.mk (Kd.V_elder' (by (with_reducible repeat (first | apply Kd.V_alloc | apply Kd.V_drewN | apply Kd.V_drew)); exact HO195.out) (Kd.R_base ho0) hb); have n2_ := Aside0.mk (Kd.R_elder' (by (with_reducible repeat (first | apply Kd.R_alloc | apply Kd.R_drewN | apply Kd.R_drew)); exact HO198.out) (Kd.R_base ho0) hb); have n3_ := Aside0.mk (Kd.R_lower (Kd.R_new' (Kd.R_new' ho0 (Kd.R_lt (by (with_reducible repeat (first | apply Kd.R_alloc | apply Kd.R_drewN | apply Kd.R_drew)); exact HO188.out))) (Kd.R_lt (by (with_reducible repeat (first | apply Kd.R_alloc | apply Kd.R_drewN | apply Kd.R_drew)); exact HO198.out))) (below_size (by repeat (first | (with_reducible first | exact HB.out | apply below_alloc | apply pw_below_drewN | apply below_drew1 | refine below_set ?_ GE182.out | refine below_set ?_ GE183.out) | exact HB.out)))); have n4_ := Aside0.mk (blk_below (g := gb182) (o := .cells #[.int .i64 a0_0, .int .u64 a0_1, .int .u64 a0_2, .slice A0_3 l0_3.length c0_3] 25 (0, 0)) (by (with_reducible repeat (first | refine blk_drewN ?_ _ | refine blk_drew ?_ | refine blk_alloc ?_ _)); exact BK182.out) hb); have n5_ := Aside0.mk (blk_below (g := gb183) (o := .cells #[.int .i64 a1_0, .int .u64 a1_1, .int .u64 a1_2, .slice A1_3 l1_3.length c1_3] 25 (0, 0)) (by (with_reducible repeat (first | refine blk_drewN ?_ _ | refine blk_drew ?_ | refine blk_alloc ?_ _)); exact BK183.out) hb); have n6_ := Aside0.mk (below_step (by repeat (first | (with_reducible first | exact HB.out | apply below_alloc | apply pw_below_drewN | apply below_drew1 | refine below_set ?_ GE182.out | refine below_set ?_ GE183.out) | exact HB.out)) hb); clear HO188; clear HO195; clear HO198; clear BK182; clear BK183; clear HB; have HO188 := n0_; have HO195 := n1_; have HO198 := n2_; have HO205 := n3_; have BK182 := n4_; have BK183 := n5_; have HB := n6_; clear n0_ n1_ n2_ n3_ n4_ n5_ n6_; (try clear hb); (try clear hb2); (try clear hk); (try clear hi); (try clear ho0)) | ((with_reducible refine gate_dst (N := 13) rfl ?_); (try (refine gate_guard (by rfl) ?_; dsimp only)); refine box_event ?hg (N := 13) ?hd (cs := #[.int .i64 0, .int .u64 0, .int .u64 0, .slice none 0 0]) (t := 25) ?hr ?_; (case hd => rfl); (case hg => rfl); (case hr => first | (go_simp; done) | (go_simp; rfl)); intro gb208 hg w55 hbox hb; have n0_ := Aside0.mk (Kd.R_below (by (with_reducible repeat (first | apply Kd.R_alloc | apply Kd.R_drewN | apply Kd.R_drew)); exact HO188.out) hb); have n1_ := Aside0.mk (Kd.V_below (Kd.V_elderB (by (with_reducible repeat (first | apply Kd.V_alloc | apply Kd.V_drewN | apply Kd.V_drew)); exact HO195.out) gb208 (Nat.le_of_eq hg.symm)) hb); have n2_ := Aside0.mk (Kd.R_below (by (with_reducible repeat (first | apply Kd.R_alloc | apply Kd.R_drewN | apply Kd.R_drew)); exact HO198.out) hb); have n3_ := Aside0.mk (Kd.R_below (by (with_reducible repeat (first | apply Kd.R_alloc | apply Kd.R_drewN | apply Kd.R_drew)); exact HO205.out) hb); have n4_ := Aside0.mk (blk_below (g := gb182) (o := .cells #[.int .i64 a0_0, .int .u64 a0_1, .int .u64 a0_2, .slice A0_3 l0_3.length c0_3] 25 (0, 0)) (by (with_reducible repeat (first | refine blk_drewN ?_ _ | refine blk_drew ?_ | refine blk_alloc ?_ _)); exact BK182.out) hb); have n5_ := Aside0.mk (blk_below (g := gb183) (o := .cells #[.int .i64 a1_0, .int .u64 a1_1, .int .u64 a1_2, .slice A1_3 l1_3.length c1_3] 25 (0, 0)) (by (with_reducible repeat (first | refine blk_drewN ?_ _ | refine blk_drew ?_ | refine blk_alloc ?_ _)); exact BK183.out) hb); have n6_ := Aside0.mk (below_step (by repeat (first | (with_reducible first | exact HB.out | apply below_alloc | apply pw_below_drewN | apply below_drew1 | refine below_set ?_ GE182.out | refine below_set ?_ GE183.out) | exact HB.out)) hb); have n7_ := Aside0.mk (hbox); have n8_ := Aside0.mk ((by rw [hg]; exact (below_size (by repeat (first | (with_reducible first | exact HB.out | apply below_alloc | apply pw_below_drewN | apply below_drew1 | refine below_set ?_ GE182.out | refine below_set ?_ GE183.out) | exact HB.out))) : w.heap.size ≤ gb208)); have n9_ := Aside0.mk ((by rw [hg]; exact (below_size (by repeat (first | (with_reducible first | exact HB.out | apply below_alloc | apply pw_below_drewN | apply below_drew1 | refine below_set ?_ GE182.out | refine below_set ?_ GE183.out) | exact HB.out))) : w.heap.size ≤ gb208)); have n10_ := Aside0.mk ((by rw [hg]; exact Nat.ne_of_lt (blk_lt (g := gb182) (o := .cells #[.int .i64 a0_0, .int .u64 a0_1, .int .u64 a0_2, .slice A0_3 l0_3.length c0_3] 25 (0, 0)) (by (with_reducible repeat (first | refine blk_drewN ?_ _ | refine blk_drew ?_ | refine blk_alloc ?_ _)); exact BK182.out)) : gb182 ≠ gb208)); have n11_ := Aside0.mk ((by rw [hg]; exact Nat.ne_of_gt (blk_lt (g := gb182) (o := .cells #[.int .i64 a0_0, .int .u64 a0_1, .int .u64 a0_2, .slice A0_3 l0_3.length c0_3] 25 (0, 0)) (by (with_reducible repeat (first | refine blk_drewN ?_ _ | refine blk_drew ?_ | refine blk_alloc ?_ _)); exact BK182.out)) : gb208 ≠ gb182)); have n12_ := Aside0.mk ((by rw [hg]; exact Nat.ne_of_lt (blk_lt (g := gb183) (o := .cells #[.int .i64 a1_0, .int .u64 a1_1, .int .u64 a1_2, .slice A1_3 l1_3.length c1_3] 25 (0, 0)) (by (with_reducible repeat (first | refine blk_drewN ?_ _ | refine blk_drew ?_ | refine blk_alloc ?_ _)); exact BK183.out)) : gb183 ≠ gb208)); have n13_ := Aside0.mk ((by rw [hg]; exact Nat.ne_of_gt (blk_lt (g := gb183) (o := .cells #[.int .i64 a1_0, .int .u64 a1_1, .int .u64 a1_2, .slice A1_3 l1_3.length c1_3] 25 (0, 0)) (by (with_reducible repeat (first | refine blk_drewN ?_ _ | refine blk_drew ?_ | refine blk_alloc ?_ _)); exact BK183.out)) : gb208 ≠ gb183)); clear HO188; clear HO195; clear HO198; clear HO205; clear BK182; clear BK183; clear HB; have HO188 := n0_; have HO195 := n1_; have HO198 := n2_; have HO205 := n3_; have BK182 := n4_; have BK183 := n5_; have HB := n6_; have BK208 := n7_; have GW208 := n8_; have GE208 := n9_; have NB182_208 := n10_; have NB208_182 := n11_; have NB183_208 := n12_; have NB208_183 := n13_; clear n0_ n1_ n2_ n3_ n4_ n5_ n6_ n7_ n8_ n9_ n10_ n11_ n12_ n13_; clear hb hbox hg; have hnb56 := NB208_182.out; have hnc56 := NB182_208.out; have hnb57 := NB208_183.out; have hnc57 := NB183_208.out; have hcz58_0 : w55.cell? ⟨gb208, 0, none⟩ = some (.int .i64 0) := (blk_cell BK208.out 0).trans rfl; have hcz58_1 : w55.cell? ⟨gb208, 1, none⟩ = some (.int .u64 0) := (blk_cell BK208.out 1).trans rfl; have hcz58_2 : w55.cell? ⟨gb208, 2, none⟩ = some (.int .u64 0) := (blk_cell BK208.out 2).trans rfl; have hcz58_3 : w55.cell? ⟨gb208, 3, none⟩ = some (.slice none 0 0) := (blk_cell BK208.out 3).trans rfl; have hfz58_0 := blk_frozen BK208.out 0; have hfz58_1 := blk_frozen BK208.out 1; have hfz58_2 := blk_frozen BK208.out 2; have hfz58_3 := blk_frozen BK208.out 3; obtain ⟨Ao59, co59, eo59⟩ := Kd.R_slice HO205.out; subst eo59) | ((with_reducible refine gate_callee (f := 15) rfl ?_); refine goesL_ (some 58) rfl rfl Try.func15 (by kernel_rfl) rfl #[.slice A2 l2.length c2, .int .i64 a3] rfl (by (try simp only [List.map_toArray, List.map_cons, List.map_nil]); first | done | rfl | (simp only [List.length_drop, List.length_take]; rfl)) ?_; (with_reducible refine (tikref13_DecodeRecord.calls _ _ l2 a3 t209 t210 t211 t212 t215 t216 _ ?side1 ?side2 A28.out).mono ?_); (case side1 => exact Kd.C_below HR2.out (by repeat (first | (with_reducible first | exact HB.out | apply below_alloc | apply pw_below_drewN | apply below_drew1 | refine below_set ?_ GE182.out | refine below_set ?_ GE183.out | refine below_set ?_ GE208.out) | exact HB.out))); (case side2 => exact HC2.out); rintro e w60 ⟨v213, rfl, ho0, hb⟩; refine ⟨_, rfl, ?_⟩; have n0_ := Aside0.mk (Kd.R_elder' (by (with_reducible repeat (first | apply Kd.R_alloc | apply Kd.R_drewN | apply Kd.R_drew)); exact (Kd.R_mono (Kd.R_far (p := ⟨gb208, 3, none⟩) (Kd.R_far (p := ⟨gb208, 2, none⟩) (Kd.R_far (p := ⟨gb208, 1, none⟩) (Kd.R_far (p := ⟨gb208, 0, none⟩) (Kd.R_types HO188.out BK208.out (by decide)) (fun _ hk => hk.2) (.int .i64 t200)) (fun _ hk => hk.2) (.int .u64 t201)) (fun _ hk => hk.2) (.int .u64 t202)) (fun _ hk => hk.2) (.slice Ao59 t203.length co59)) (fun _ h_ => h_.1))) (Kd.R_base ho0) hb); have n1_ := Aside0.mk (Kd.V_elder' (by (with_reducible repeat (first | apply Kd.V_alloc | apply Kd.V_drewN | apply Kd.V_drew)); exact (Kd.V_mono (Kd.V_far (p := ⟨gb208, 3, none⟩) (Kd.V_far (p := ⟨gb208, 2, none⟩) (Kd.V_far (p := ⟨gb208, 1, none⟩) (Kd.V_far (p := ⟨gb208, 0, none⟩) (Kd.V_mono HO195.out (fun k_ hk => (⟨hk, hk.2⟩ : _ ∧ k_ ≠ gb208))) (fun _ hk => hk.2) (.int .i64 t200)) (fun _ hk => hk.2) (.int .u64 t201)) (fun _ hk => hk.2) (.int .u64 t202)) (fun _ hk => hk.2) (.slice Ao59 t203.length co59)) (fun _ h_ => h_.1))) (Kd.R_base ho0) hb); have n2_ := Aside0.mk (Kd.R_elder' (by (with_reducible repeat (first | apply Kd.R_alloc | apply Kd.R_drewN | apply Kd.R_drew)); exact (Kd.R_mono (Kd.R_far (p := ⟨gb208, 3, none⟩) (Kd.R_far (p := ⟨gb208, 2, none⟩) (Kd.R_far (p := ⟨gb208, 1, none⟩) (Kd.R_far (p := ⟨gb208, 0, none⟩) (Kd.R_types HO198.out BK208.out (by decide)) (fun _ hk => hk.2) (.int .i64 t200)) (fun _ hk => hk.2) (.int .u64 t201)) (fun _ hk => hk.2) (.int .u64 t202)) (fun _ hk => hk.2) (.slice Ao59 t203.length co59)) (fun _ h_ => h_.1))) (Kd.R_base ho0) hb); have n3_ := Aside0.mk (Kd.R_elder' (by (with_reducible repeat (first | apply Kd.R_alloc | apply Kd.R_drewN | apply Kd.R_drew)); exact (Kd.R_mono (Kd.R_far (p := ⟨gb208, 3, none⟩) (Kd.R_far (p := ⟨gb208, 2, none⟩) (Kd.R_far (p := ⟨gb208, 1, none⟩) (Kd.R_far (p := ⟨gb208, 0, none⟩) (Kd.R_types HO205.out BK208.out (by decide)) (fun _ hk => hk.2) (.int .i64 t200)) (fun _ hk => hk.2) (.int .u64 t201)) (fun _ hk => hk.2) (.int .u64 t202)) (fun _ hk => hk.2) (.slice Ao59 t203.length co59)) (fun _ h_ => h_.1))) (Kd.R_base ho0) hb); have n4_ := Aside0.mk (Kd.R_lower (Kd.R_new' (Kd.R_new' (Kd.R_new' ho0 (Kd.R_lt (by (with_reducible repeat (first | apply Kd.R_alloc | apply Kd.R_drewN | apply Kd.R_drew)); exact (Kd.R_mono (Kd.R_far (p := ⟨gb208, 3, none⟩) (Kd.R_far (p := ⟨gb208, 2, none⟩) (Kd.R_far (p := ⟨gb208, 1, none⟩) (Kd.R_far (p := ⟨gb208, 0, none⟩) (Kd.R_types HO188.out BK208.out (by decide)) (fun _ hk => hk.2) (.int .i64 t200)) (fun _ hk => hk.2) (.int .u64 t201)) (fun _ hk => hk.2) (.int .u64 t202)) (fun _ hk => hk.2) (.slice Ao59 t203.length co59)) (fun _ h_ => h_.1))))) (Kd.R_lt (by (with_reducible repeat (first | apply Kd.R_alloc | apply Kd.R_drewN | apply Kd.R_drew)); exact (Kd.R_mono (Kd.R_far (p := ⟨gb208, 3, none⟩) (Kd.R_far (p := ⟨gb208, 2, none⟩) (Kd.R_far (p := ⟨gb208, 1, none⟩) (Kd.R_far (p := ⟨gb208, 0, none⟩) (Kd.R_types HO198.out BK208.out (by decide)) (fun _ hk => hk.2) (.int .i64 t200)) (fun _ hk => hk.2) (.int .u64 t201)) (fun _ hk => hk.2) (.int .u64 t202)) (fun _ hk => hk.2) (.slice Ao59 t203.length co59)) (fun _ h_ => h_.1))))) (Kd.R_lt (by (with_reducible repeat (first | apply Kd.R_alloc | apply Kd.R_drewN | apply Kd.R_drew)); exact (Kd.R_mono (Kd.R_far (p := ⟨gb208, 3, none⟩) (Kd.R_far (p := ⟨gb208, 2, none⟩) (Kd.R_far (p := ⟨gb208, 1, none⟩) (Kd.R_far (p := ⟨gb208, 0, none⟩) (Kd.R_types HO205.out BK208.out (by decide)) (fun _ hk => hk.2) (.int .i64 t200)) (fun _ hk => hk.2) (.int .u64 t201)) (fun _ hk => hk.2) (.int .u64 t202)) (fun _ hk => hk.2) (.slice Ao59 t203.length co59)) (fun _ h_ => h_.1))))) (below_size (by repeat (first | (with_reducible first | exact HB.out | apply below_alloc | apply pw_below_drewN | apply below_drew1 | refine below_set ?_ GE182.out | refine below_set ?_ GE183.out | refine below_set ?_ GE208.out) | exact HB.out)))); have n5_ := Aside0.mk (blk_below (g := gb182) (o := .cells #[.int .i64 a0_0, .int .u64 a0_1, .int .u64 a0_2, .slice A0_3 l0_3.length c0_3] 25 (0, 0)) (by (with_reducible repeat (first | refine blk_drewN ?_ _ | refine blk_drew ?_ | refine blk_alloc ?_ _)); refine blk_far ?_ NB182_208.out _; (with_reducible repeat (first | refine blk_drewN ?_ _ | refine blk_drew ?_ | refine blk_alloc ?_ _)); refine blk_far ?_ NB182_208.out _; (with_reducible repeat (first | refine blk_drewN ?_ _ | refine blk_drew ?_ | refine blk_alloc ?_ _)); refine blk_far ?_ NB182_208.out _; (with_reducible repeat (first | refine blk_drewN ?_ _ | refine blk_drew ?_ | refine blk_alloc ?_ _)); refine blk_far ?_ NB182_208.out _; (with_reducible repeat (first | refine blk_drewN ?_ _ | refine blk_drew ?_ | refine blk_alloc ?_ _)); exact BK182.out) hb); have n6_ := Aside0.mk (blk_below (g := gb183) (o := .cells #[.int .i64 a1_0, .int .u64 a1_1, .int .u64 a1_2, .slice A1_3 l1_3.length c1_3] 25 (0, 0)) (by (with_reducible repeat (first | refine blk_drewN ?_ _ | refine blk_drew ?_ | refine blk_alloc ?_ _)); refine blk_far ?_ NB183_208.out _; (with_reducible repeat (first | refine blk_drewN ?_ _ | refine blk_drew ?_ | refine blk_alloc ?_ _)); refine blk_far ?_ NB183_208.out _; (with_reducible repeat (first | refine blk_drewN ?_ _ | refine blk_drew ?_ | refine blk_alloc ?_ _)); refine blk_far ?_ NB183_208.out _; (with_reducible repeat (first | refine blk_drewN ?_ _ | refine blk_drew ?_ | refine blk_alloc ?_ _)); refine blk_far ?_ NB183_208.out _; (with_reducible repeat (first | refine blk_drewN ?_ _ | refine blk_drew ?_ | refine blk_alloc ?_ _)); exact BK183.out) hb); have n7_ := Aside0.mk (blk_below (g := gb208) (o := .cells #[.int .i64 t200, .int .u64 t201, .int .u64 t202, .slice Ao59 t203.length co59] 25 (0, 0)) (by (with_reducible repeat (first | refine blk_drewN ?_ _ | refine blk_drew ?_ | refine blk_alloc ?_ _)); refine blk_put (cs := #[.int .i64 t200, .int .u64 t201, .int .u64 t202, .slice none 0 0]) ?_ 3 _ rfl; (with_reducible repeat (first | refine blk_drewN ?_ _ | refine blk_drew ?_ | refine blk_alloc ?_ _)); refine blk_put (cs := #[.int .i64 t200, .int .u64 t201, .int .u64 0, .slice none 0 0]) ?_ 2 _ rfl; (with_reducible repeat (first | refine blk_drewN ?_ _ | refine blk_drew ?_ | refine blk_alloc ?_ _)); refine blk_put (cs := #[.int .i64 t200, .int .u64 0, .int .u64 0, .slice none 0 0]) ?_ 1 _ rfl; (with_reducible repeat (first | refine blk_drewN ?_ _ | refine blk_drew ?_ | refine blk_alloc ?_ _)); refine blk_put (cs := #[.int .i64 0, .int .u64 0, .int .u64 0, .slice none 0 0]) ?_ 0 _ rfl; (with_reducible repeat (first | refine blk_drewN ?_ _ | refine blk_drew ?_ | refine blk_alloc ?_ _)); exact BK208.out) hb); have n8_ := Aside0.mk (below_step (by repeat (first | (with_reducible first | exact HB.out | apply below_alloc | apply pw_below_drewN | apply below_drew1 | refine below_set ?_ GE182.out | refine below_set ?_ GE183.out | refine below_set ?_ GE208.out) | exact HB.out)) hb); clear HO188; clear HO195; clear HO198; clear HO205; clear BK182; clear BK183; clear BK208; clear HB; have HO188 := n0_; have HO195 := n1_; have HO198 := n2_; have HO205 := n3_; have HO214 := n4_; have BK182 := n5_; have BK183 := n6_; have BK208 := n7_; have HB := n8_; clear n0_ n1_ n2_ n3_ n4_ n5_ n6_ n7_ n8_; (try clear hb); (try clear hb2); (try clear hk); (try clear hi); (try clear ho0)) | ((with_reducible refine gate_dst (N := 16) rfl ?_); (try (refine gate_guard (by rfl) ?_; dsimp only)); refine box_event ?hg (N := 16) ?hd (cs := #[.int .i64 0, .int .u64 0, .int .u64 0, .slice none 0 0]) (t := 31) ?hr ?_; (case hd => rfl); (case hg => rfl); (case hr => first | (go_simp; done) | (go_simp; rfl)); intro gb217 hg w61 hbox hb; have n0_ := Aside0.mk (Kd.R_below (by (with_reducible repeat (first | apply Kd.R_alloc | apply Kd.R_drewN | apply Kd.R_drew)); exact HO188.out) hb); have n1_ := Aside0.mk (Kd.V_below (Kd.V_elderB (by (with_reducible repeat (first | apply Kd.V_alloc | apply Kd.V_drewN | apply Kd.V_drew)); exact HO195.out) gb217 (Nat.le_of_eq hg.symm)) hb); have n2_ := Aside0.mk (Kd.R_below (by (with_reducible repeat (first | apply Kd.R_alloc | apply Kd.R_drewN | apply Kd.R_drew)); exact HO198.out) hb); have n3_ := Aside0.mk (Kd.R_below (by (with_reducible repeat (first | apply Kd.R_alloc | apply Kd.R_drewN | apply Kd.R_drew)); exact HO205.out) hb); have n4_ := Aside0.mk (Kd.R_below (by (with_reducible repeat (first | apply Kd.R_alloc | apply Kd.R_drewN | apply Kd.R_drew)); exact HO214.out) hb); have n5_ := Aside0.mk (blk_below (g := gb182) (o := .cells #[.int .i64 a0_0, .int .u64 a0_1, .int .u64 a0_2, .slice A0_3 l0_3.length c0_3] 25 (0, 0)) (by (with_reducible repeat (first | refine blk_drewN ?_ _ | refine blk_drew ?_ | refine blk_alloc ?_ _)); exact BK182.out) hb); have n6_ := Aside0.mk (blk_below (g := gb183) (o := .cells #[.int .i64 a1_0, .int .u64 a1_1, .int .u64 a1_2, .slice A1_3 l1_3.length c1_3] 25 (0, 0)) (by (with_reducible repeat (first | refine blk_drewN ?_ _ | refine blk_drew ?_ | refine blk_alloc ?_ _)); exact BK183.out) hb); have n7_ := Aside0.mk (blk_below (g := gb208) (o := .cells #[.int .i64 t200, .int .u64 t201, .int .u64 t202, .slice Ao59 t203.length co59] 25 (0, 0)) (by (with_reducible repeat (first | refine blk_drewN ?_ _ | refine blk_drew ?_ | refine blk_alloc ?_ _)); exact BK208.out) hb); have n8_ := Aside0.mk (below_step (by repeat (first | (with_reducible first | exact HB.out | apply below_alloc | apply pw_below_drewN | apply below_drew1 | refine below_set ?_ GE182.out | refine below_set ?_ GE183.out | refine below_set ?_ GE208.out) | exact HB.out)) hb); have n9_ := Aside0.mk (hbox); have n10_ := Aside0.mk ((by rw [hg]; exact (below_size (by repeat (first | (with_reducible first | exact HB.out | apply below_alloc | apply pw_below_drewN | apply below_drew1 | refine below_set ?_ GE182.out | refine below_set ?_ GE183.out | refine below_set ?_ GE208.out) | exact HB.out))) : w.heap.size ≤ gb217)); have n11_ := Aside0.mk ((by rw [hg]; exact (below_size (by repeat (first | (with_reducible first | exact HB.out | apply below_alloc | apply pw_below_drewN | apply below_drew1 | refine below_set ?_ GE182.out | refine below_set ?_ GE183.out | refine below_set ?_ GE208.out) | exact HB.out))) : w.heap.size ≤ gb217)); have n12_ := Aside0.mk ((by rw [hg]; exact Nat.ne_of_lt (blk_lt (g := gb182) (o := .cells #[.int .i64 a0_0, .int .u64 a0_1, .int .u64 a0_2, .slice A0_3 l0_3.length c0_3] 25 (0, 0)) (by (with_reducible repeat (first | refine blk_drewN ?_ _ | refine blk_drew ?_ | refine blk_alloc ?_ _)); exact BK182.out)) : gb182 ≠ gb217)); have n13_ := Aside0.mk ((by rw [hg]; exact Nat.ne_of_gt (blk_lt (g := gb182) (o := .cells #[.int .i64 a0_0, .int .u64 a0_1, .int .u64 a0_2, .slice A0_3 l0_3.length c0_3] 25 (0, 0)) (by (with_reducible repeat (first | refine blk_drewN ?_ _ | refine blk_drew ?_ | refine blk_alloc ?_ _)); exact BK182.out)) : gb217 ≠ gb182)); have n14_ := Aside0.mk ((by rw [hg]; exact Nat.ne_of_lt (blk_lt (g := gb183) (o := .cells #[.int .i64 a1_0, .int .u64 a1_1, .int .u64 a1_2, .slice A1_3 l1_3.length c1_3] 25 (0, 0)) (by (with_reducible repeat (first | refine blk_drewN ?_ _ | refine blk_drew ?_ | refine blk_alloc ?_ _)); exact BK183.out)) : gb183 ≠ gb217)); have n15_ := Aside0.mk ((by rw [hg]; exact Nat.ne_of_gt (blk_lt (g := gb183) (o := .cells #[.int .i64 a1_0, .int .u64 a1_1, .int .u64 a1_2, .slice A1_3 l1_3.length c1_3] 25 (0, 0)) (by (with_reducible repeat (first | refine blk_drewN ?_ _ | refine blk_drew ?_ | refine blk_alloc ?_ _)); exact BK183.out)) : gb217 ≠ gb183)); have n16_ := Aside0.mk ((by rw [hg]; exact Nat.ne_of_lt (blk_lt (g := gb208) (o := .cells #[.int .i64 t200, .int .u64 t201, .int .u64 t202, .slice Ao59 t203.length co59] 25 (0, 0)) (by (with_reducible repeat (first | refine blk_drewN ?_ _ | refine blk_drew ?_ | refine blk_alloc ?_ _)); exact BK208.out)) : gb208 ≠ gb217)); have n17_ := Aside0.mk ((by rw [hg]; exact Nat.ne_of_gt (blk_lt (g := gb208) (o := .cells #[.int .i64 t200, .int .u64 t201, .int .u64 t202, .slice Ao59 t203.length co59] 25 (0, 0)) (by (with_reducible repeat (first | refine blk_drewN ?_ _ | refine blk_drew ?_ | refine blk_alloc ?_ _)); exact BK208.out)) : gb217 ≠ gb208)); clear HO188; clear HO195; clear HO198; clear HO205; clear HO214; clear BK182; clear BK183; clear BK208; clear HB; have HO188 := n0_; have HO195 := n1_; have HO198 := n2_; have HO205 := n3_; have HO214 := n4_; have BK182 := n5_; have BK183 := n6_; have BK208 := n7_; have HB := n8_; have BK217 := n9_; have GW217 := n10_; have GE217 := n11_; have NB182_217 := n12_; have NB217_182 := n13_; have NB183_217 := n14_; have NB217_183 := n15_; have NB208_217 := n16_; have NB217_208 := n17_; clear n0_ n1_ n2_ n3_ n4_ n5_ n6_ n7_ n8_ n9_ n10_ n11_ n12_ n13_ n14_ n15_ n16_ n17_; clear hb hbox hg; have hnb62 := NB217_182.out; have hnc62 := NB182_217.out; have hnb63 := NB217_183.out; have hnc63 := NB183_217.out; have hnb64 := NB217_208.out; have hnc64 := NB208_217.out; have hcz65_0 : w61.cell? ⟨gb217, 0, none⟩ = some (.int .i64 0) := (blk_cell BK217.out 0).trans rfl; have hcz65_1 : w61.cell? ⟨gb217, 1, none⟩ = some (.int .u64 0) := (blk_cell BK217.out 1).trans rfl; have hcz65_2 : w61.cell? ⟨gb217, 2, none⟩ = some (.int .u64 0) := (blk_cell BK217.out 2).trans rfl; have hcz65_3 : w61.cell? ⟨gb217, 3, none⟩ = some (.slice none 0 0) := (blk_cell BK217.out 3).trans rfl; have hfz65_0 := blk_frozen BK217.out 0; have hfz65_1 := blk_frozen BK217.out 1; have hfz65_2 := blk_frozen BK217.out 2; have hfz65_3 := blk_frozen BK217.out 3; obtain ⟨Ao66, co66, eo66⟩ := Kd.R_slice HO214.out; subst eo66))
                        have n0_ : Aside0 (Kd.R (Kd.int .u8) 5 ((((w61.setCell ⟨gb217, 0, none⟩ (.int .i64 t209)).setCell ⟨gb217, 1, none⟩ (.int .u64 t210)).setCell ⟨gb217, 2, none⟩ (.int .u64 t211)).setCell ⟨gb217, 3, none⟩ (.slice Ao66 t212.length co66)) w.heap.size (fun k_ => some k_ ≠ (v197 : Value).ownBlock ∧ some k_ ≠ (.slice Ao59 t203.length co59 : Value).ownBlock ∧ some k_ ≠ (.slice Ao66 t212.length co66 : Value).ownBlock) v187 t186) := ⟨by (with_reducible repeat (first | apply Kd.R_alloc | apply Kd.R_drewN | apply Kd.R_drew)); exact Kd.R_mono (Kd.R_far (p := ⟨gb217, 3, none⟩) (Kd.R_far (p := ⟨gb217, 2, none⟩) (Kd.R_far (p := ⟨gb217, 1, none⟩) (Kd.R_far (p := ⟨gb217, 0, none⟩) (Kd.R_types HO188.out BK217.out (by decide)) (fun _ hk => hk.2) (.int .i64 t209)) (fun _ hk => hk.2) (.int .u64 t210)) (fun _ hk => hk.2) (.int .u64 t211)) (fun _ hk => hk.2) (.slice Ao66 t212.length co66)) (fun _ hk => ⟨hk.1.1.1.2, ⟨hk.1.1.2, hk.1.2⟩⟩)⟩
                        have n1_ : Aside0 (Kd.V (Kd.int .u8) 5 ((((w61.setCell ⟨gb217, 0, none⟩ (.int .i64 t209)).setCell ⟨gb217, 1, none⟩ (.int .u64 t210)).setCell ⟨gb217, 2, none⟩ (.int .u64 t211)).setCell ⟨gb217, 3, none⟩ (.slice Ao66 t212.length co66)) w.heap.size (fun k_ => some k_ ≠ (v187 : Value).ownBlock ∧ some k_ ≠ (v197 : Value).ownBlock ∧ some k_ ≠ (.slice Ao59 t203.length co59 : Value).ownBlock ∧ some k_ ≠ (.slice Ao66 t212.length co66 : Value).ownBlock ∧ k_ ≠ gb182 ∧ k_ ≠ gb183 ∧ k_ ≠ gb208 ∧ k_ ≠ gb217) (.slice Ao52 t193.length co52) t193) := ⟨by (with_reducible repeat (first | apply Kd.V_alloc | apply Kd.V_drewN | apply Kd.V_drew)); exact Kd.V_mono (Kd.V_far (p := ⟨gb217, 3, none⟩) (Kd.V_far (p := ⟨gb217, 2, none⟩) (Kd.V_far (p := ⟨gb217, 1, none⟩) (Kd.V_far (p := ⟨gb217, 0, none⟩) (Kd.V_mono HO195.out (fun k_ hk => (⟨hk, hk.2⟩ : _ ∧ k_ ≠ gb217))) (fun _ hk => hk.2) (.int .i64 t209)) (fun _ hk => hk.2) (.int .u64 t210)) (fun _ hk => hk.2) (.int .u64 t211)) (fun _ hk => hk.2) (.slice Ao66 t212.length co66)) (fun _ hk => ⟨hk.1.1.1.1.1.1.1, ⟨hk.1.1.1.1.1.2, ⟨hk.1.1.1.1.2, ⟨hk.1.1.2, ⟨hk.1.1.1.1.1.1.2.1, ⟨hk.1.1.1.1.1.1.2.2, ⟨hk.1.1.1.2, hk.1.2⟩⟩⟩⟩⟩⟩⟩)⟩
                        have n2_ : Aside0 (Kd.R (Kd.int .u8) 5 ((((w61.setCell ⟨gb217, 0, none⟩ (.int .i64 t209)).setCell ⟨gb217, 1, none⟩ (.int .u64 t210)).setCell ⟨gb217, 2, none⟩ (.int .u64 t211)).setCell ⟨gb217, 3, none⟩ (.slice Ao66 t212.length co66)) w.heap.size (fun k_ => some k_ ≠ (v187 : Value).ownBlock ∧ some k_ ≠ (.slice Ao59 t203.length co59 : Value).ownBlock ∧ some k_ ≠ (.slice Ao66 t212.length co66 : Value).ownBlock) v197 t196) := ⟨by (with_reducible repeat (first | apply Kd.R_alloc | apply Kd.R_drewN | apply Kd.R_drew)); exact Kd.R_mono (Kd.R_far (p := ⟨gb217, 3, none⟩) (Kd.R_far (p := ⟨gb217, 2, none⟩) (Kd.R_far (p := ⟨gb217, 1, none⟩) (Kd.R_far (p := ⟨gb217, 0, none⟩) (Kd.R_types HO198.out BK217.out (by decide)) (fun _ hk => hk.2) (.int .i64 t209)) (fun _ hk => hk.2) (.int .u64 t210)) (fun _ hk => hk.2) (.int .u64 t211)) (fun _ hk => hk.2) (.slice Ao66 t212.length co66)) (fun _ hk => ⟨hk.1.1.1.2, ⟨hk.1.1.2, hk.1.2⟩⟩)⟩
                        have n3_ : Aside0 (Kd.R (Kd.int .u8) 5 ((((w61.setCell ⟨gb217, 0, none⟩ (.int .i64 t209)).setCell ⟨gb217, 1, none⟩ (.int .u64 t210)).setCell ⟨gb217, 2, none⟩ (.int .u64 t211)).setCell ⟨gb217, 3, none⟩ (.slice Ao66 t212.length co66)) w.heap.size (fun k_ => some k_ ≠ (v187 : Value).ownBlock ∧ some k_ ≠ (v197 : Value).ownBlock ∧ some k_ ≠ (.slice Ao66 t212.length co66 : Value).ownBlock) (.slice Ao59 t203.length co59) t203) := ⟨by (with_reducible repeat (first | apply Kd.R_alloc | apply Kd.R_drewN | apply Kd.R_drew)); exact Kd.R_mono (Kd.R_far (p := ⟨gb217, 3, none⟩) (Kd.R_far (p := ⟨gb217, 2, none⟩) (Kd.R_far (p := ⟨gb217, 1, none⟩) (Kd.R_far (p := ⟨gb217, 0, none⟩) (Kd.R_types HO205.out BK217.out (by decide)) (fun _ hk => hk.2) (.int .i64 t209)) (fun _ hk => hk.2) (.int .u64 t210)) (fun _ hk => hk.2) (.int .u64 t211)) (fun _ hk => hk.2) (.slice Ao66 t212.length co66)) (fun _ hk => ⟨hk.1.1.1.2, ⟨hk.1.1.2, hk.1.2⟩⟩)⟩
                        have n4_ : Aside0 (Kd.R (Kd.int .u8) 5 ((((w61.setCell ⟨gb217, 0, none⟩ (.int .i64 t209)).setCell ⟨gb217, 1, none⟩ (.int .u64 t210)).setCell ⟨gb217, 2, none⟩ (.int .u64 t211)).setCell ⟨gb217, 3, none⟩ (.slice Ao66 t212.length co66)) w.heap.size (fun k_ => some k_ ≠ (v187 : Value).ownBlock ∧ some k_ ≠ (v197 : Value).ownBlock ∧ some k_ ≠ (.slice Ao59 t203.length co59 : Value).ownBlock) (.slice Ao66 t212.length co66) t212) := ⟨by (with_reducible repeat (first | apply Kd.R_alloc | apply Kd.R_drewN | apply Kd.R_drew)); exact Kd.R_mono (Kd.R_far (p := ⟨gb217, 3, none⟩) (Kd.R_far (p := ⟨gb217, 2, none⟩) (Kd.R_far (p := ⟨gb217, 1, none⟩) (Kd.R_far (p := ⟨gb217, 0, none⟩) (Kd.R_types HO214.out BK217.out (by decide)) (fun _ hk => hk.2) (.int .i64 t209)) (fun _ hk => hk.2) (.int .u64 t210)) (fun _ hk => hk.2) (.int .u64 t211)) (fun _ hk => hk.2) (.slice Ao66 t212.length co66)) (fun _ hk => ⟨hk.1.1.1.2, ⟨hk.1.1.2, hk.1.2⟩⟩)⟩
                        have n5_ : Aside0 (((((w61.setCell ⟨gb217, 0, none⟩ (.int .i64 t209)).setCell ⟨gb217, 1, none⟩ (.int .u64 t210)).setCell ⟨gb217, 2, none⟩ (.int .u64 t211)).setCell ⟨gb217, 3, none⟩ (.slice Ao66 t212.length co66)).heap[gb182]? = some (.cells #[.int .i64 a0_0, .int .u64 a0_1, .int .u64 a0_2, .slice A0_3 l0_3.length c0_3] 25 (0, 0))) := ⟨by (with_reducible repeat (first | refine blk_drewN ?_ _ | refine blk_drew ?_ | refine blk_alloc ?_ _)); refine blk_far ?_ NB182_217.out _; (with_reducible repeat (first | refine blk_drewN ?_ _ | refine blk_drew ?_ | refine blk_alloc ?_ _)); refine blk_far ?_ NB182_217.out _; (with_reducible repeat (first | refine blk_drewN ?_ _ | refine blk_drew ?_ | refine blk_alloc ?_ _)); refine blk_far ?_ NB182_217.out _; (with_reducible repeat (first | refine blk_drewN ?_ _ | refine blk_drew ?_ | refine blk_alloc ?_ _)); refine blk_far ?_ NB182_217.out _; (with_reducible repeat (first | refine blk_drewN ?_ _ | refine blk_drew ?_ | refine blk_alloc ?_ _)); exact BK182.out⟩
                        have n6_ : Aside0 (((((w61.setCell ⟨gb217, 0, none⟩ (.int .i64 t209)).setCell ⟨gb217, 1, none⟩ (.int .u64 t210)).setCell ⟨gb217, 2, none⟩ (.int .u64 t211)).setCell ⟨gb217, 3, none⟩ (.slice Ao66 t212.length co66)).heap[gb183]? = some (.cells #[.int .i64 a1_0, .int .u64 a1_1, .int .u64 a1_2, .slice A1_3 l1_3.length c1_3] 25 (0, 0))) := ⟨by (with_reducible repeat (first | refine blk_drewN ?_ _ | refine blk_drew ?_ | refine blk_alloc ?_ _)); refine blk_far ?_ NB183_217.out _; (with_reducible repeat (first | refine blk_drewN ?_ _ | refine blk_drew ?_ | refine blk_alloc ?_ _)); refine blk_far ?_ NB183_217.out _; (with_reducible repeat (first | refine blk_drewN ?_ _ | refine blk_drew ?_ | refine blk_alloc ?_ _)); refine blk_far ?_ NB183_217.out _; (with_reducible repeat (first | refine blk_drewN ?_ _ | refine blk_drew ?_ | refine blk_alloc ?_ _)); refine blk_far ?_ NB183_217.out _; (with_reducible repeat (first | refine blk_drewN ?_ _ | refine blk_drew ?_ | refine blk_alloc ?_ _)); exact BK183.out⟩
                        have n7_ : Aside0 (((((w61.setCell ⟨gb217, 0, none⟩ (.int .i64 t209)).setCell ⟨gb217, 1, none⟩ (.int .u64 t210)).setCell ⟨gb217, 2, none⟩ (.int .u64 t211)).setCell ⟨gb217, 3, none⟩ (.slice Ao66 t212.length co66)).heap[gb208]? = some (.cells #[.int .i64 t200, .int .u64 t201, .int .u64 t202, .slice Ao59 t203.length co59] 25 (0, 0))) := ⟨by (with_reducible repeat (first | refine blk_drewN ?_ _ | refine blk_drew ?_ | refine blk_alloc ?_ _)); refine blk_far ?_ NB208_217.out _; (with_reducible repeat (first | refine blk_drewN ?_ _ | refine blk_drew ?_ | refine blk_alloc ?_ _)); refine blk_far ?_ NB208_217.out _; (with_reducible repeat (first | refine blk_drewN ?_ _ | refine blk_drew ?_ | refine blk_alloc ?_ _)); refine blk_far ?_ NB208_217.out _; (with_reducible repeat (first | refine blk_drewN ?_ _ | refine blk_drew ?_ | refine blk_alloc ?_ _)); refine blk_far ?_ NB208_217.out _; (with_reducible repeat (first | refine blk_drewN ?_ _ | refine blk_drew ?_ | refine blk_alloc ?_ _)); exact BK208.out⟩
                        have n8_ : Aside0 (((((w61.setCell ⟨gb217, 0, none⟩ (.int .i64 t209)).setCell ⟨gb217, 1, none⟩ (.int .u64 t210)).setCell ⟨gb217, 2, none⟩ (.int .u64 t211)).setCell ⟨gb217, 3, none⟩ (.slice Ao66 t212.length co66)).heap[gb217]? = some (.cells #[.int .i64 t209, .int .u64 t210, .int .u64 t211, .slice Ao66 t212.length co66] 31 (0, 0))) := ⟨by (with_reducible repeat (first | refine blk_drewN ?_ _ | refine blk_drew ?_ | refine blk_alloc ?_ _)); refine blk_put (cs := #[.int .i64 t209, .int .u64 t210, .int .u64 t211, .slice none 0 0]) ?_ 3 _ rfl; (with_reducible repeat (first | refine blk_drewN ?_ _ | refine blk_drew ?_ | refine blk_alloc ?_ _)); refine blk_put (cs := #[.int .i64 t209, .int .u64 t210, .int .u64 0, .slice none 0 0]) ?_ 2 _ rfl; (with_reducible repeat (first | refine blk_drewN ?_ _ | refine blk_drew ?_ | refine blk_alloc ?_ _)); refine blk_put (cs := #[.int .i64 t209, .int .u64 0, .int .u64 0, .slice none 0 0]) ?_ 1 _ rfl; (with_reducible repeat (first | refine blk_drewN ?_ _ | refine blk_drew ?_ | refine blk_alloc ?_ _)); refine blk_put (cs := #[.int .i64 0, .int .u64 0, .int .u64 0, .slice none 0 0]) ?_ 0 _ rfl; (with_reducible repeat (first | refine blk_drewN ?_ _ | refine blk_drew ?_ | refine blk_alloc ?_ _)); exact BK217.out⟩
                        have n9_ : Aside0 (Below w.heap.size w ((((w61.setCell ⟨gb217, 0, none⟩ (.int .i64 t209)).setCell ⟨gb217, 1, none⟩ (.int .u64 t210)).setCell ⟨gb217, 2, none⟩ (.int .u64 t211)).setCell ⟨gb217, 3, none⟩ (.slice Ao66 t212.length co66))) := ⟨by repeat (first | (with_reducible first | exact HB.out | apply below_alloc | apply pw_below_drewN | apply below_drew1 | refine below_set ?_ GE182.out | refine below_set ?_ GE183.out | refine below_set ?_ GE208.out | refine below_set ?_ GE217.out) | exact HB.out)⟩
                        (try clear HO188)
                        (try clear HO195)
                        (try clear HO198)
                        (try clear HO205)
                        (try clear HO214)
                        (try clear BK182)
                        (try clear BK183)
                        (try clear BK208)
                        (try clear BK217)
                        (try clear HB)
                        generalize ((((w61.setCell ⟨gb217, 0, none⟩ (.int .i64 t209)).setCell ⟨gb217, 1, none⟩ (.int .u64 t210)).setCell ⟨gb217, 2, none⟩ (.int .u64 t211)).setCell ⟨gb217, 3, none⟩ (.slice Ao66 t212.length co66)) = w67 at n0_ n1_ n2_ n3_ n4_ n5_ n6_ n7_ n8_ n9_ ⊢
                        have HO188 := n0_
                        have HO195 := n1_
                        have HO198 := n2_
                        have HO205 := n3_
                        have HO214 := n4_
                        have BK182 := n5_
                        have BK183 := n6_
                        have BK208 := n7_
                        have BK217 := n8_
                        have HB := n9_
                        clear n0_ n1_ n2_ n3_ n4_ n5_ n6_ n7_ n8_ n9_
                        have n0_ := Aside0.mk (Kd.R_drew HO188.out)
                        have n1_ := Aside0.mk (Kd.V_drew HO195.out)
                        have n2_ := Aside0.mk (Kd.R_drew HO198.out)
                        have n3_ := Aside0.mk (Kd.R_drew HO205.out)
                        have n4_ := Aside0.mk (Kd.R_drew HO214.out)
                        have n5_ := Aside0.mk (blk_drew BK182.out)
                        have n6_ := Aside0.mk (blk_drew BK183.out)
                        have n7_ := Aside0.mk (blk_drew BK208.out)
                        have n8_ := Aside0.mk (blk_drew BK217.out)
                        have n9_ := Aside0.mk (below_drew1 HB.out)
                        clear HO188
                        clear HO195
                        clear HO198
                        clear HO205
                        clear HO214
                        clear BK182
                        clear BK183
                        clear BK208
                        clear BK217
                        clear HB
                        have HO188 := n0_
                        have HO195 := n1_
                        have HO198 := n2_
                        have HO205 := n3_
                        have HO214 := n4_
                        have BK182 := n5_
                        have BK183 := n6_
                        have BK208 := n7_
                        have BK217 := n8_
                        have HB := n9_
                        clear n0_ n1_ n2_ n3_ n4_ n5_ n6_ n7_ n8_ n9_
                        refine start_ (n := 47) (S := fun w' => w'.cell? ⟨gb208, 0, none⟩ = some (.int .i64 t200) ∧ w'.cell? ⟨gb208, 1, none⟩ = some (.int .u64 t201) ∧ w'.cell? ⟨gb208, 2, none⟩ = some (.int .u64 t202) ∧ w'.cell? ⟨gb208, 3, none⟩ = some (.slice Ao59 t203.length co59) ∧ w'.cell? ⟨gb217, 0, none⟩ = some (.int .i64 t209) ∧ w'.cell? ⟨gb217, 1, none⟩ = some (.int .u64 t210) ∧ w'.cell? ⟨gb217, 2, none⟩ = some (.int .u64 t211) ∧ w'.cell? ⟨gb217, 3, none⟩ = some (.slice Ao66 t212.length co66) ∧ w'.cell? ⟨gb182, 0, none⟩ = some (.int .i64 a0_0) ∧ w'.cell? ⟨gb182, 1, none⟩ = some (.int .u64 a0_1) ∧ w'.cell? ⟨gb182, 2, none⟩ = some (.int .u64 a0_2) ∧ w'.cell? ⟨gb182, 3, none⟩ = some (.slice A0_3 l0_3.length c0_3) ∧ w'.cell? ⟨gb183, 0, none⟩ = some (.int .i64 a1_0) ∧ w'.cell? ⟨gb183, 1, none⟩ = some (.int .u64 a1_1) ∧ w'.cell? ⟨gb183, 2, none⟩ = some (.int .u64 a1_2) ∧ w'.cell? ⟨gb183, 3, none⟩ = some (.slice A1_3 l1_3.length c1_3)) (ds := []) #[false, false, false, false, false, false, false, false, false, false, false, false, false, false, false, false, false, false, false, false, false, false, false, false, false, false, false, false, false, false, false, false, false, false, false, false, false, false, false, false, false, false, false, false, false, false, false] (by kernel_rfl) rfl rfl ⟨(blk_cell BK208.out 0).trans rfl, (blk_cell BK208.out 1).trans rfl, (blk_cell BK208.out 2).trans rfl, (blk_cell BK208.out 3).trans rfl, (blk_cell BK217.out 0).trans rfl, (blk_cell BK217.out 1).trans rfl, (blk_cell BK217.out 2).trans rfl, (blk_cell BK217.out 3).trans rfl, (blk_cell BK182.out 0).trans rfl, (blk_cell BK182.out 1).trans rfl, (blk_cell BK182.out 2).trans rfl, (blk_cell BK182.out 3).trans rfl, (blk_cell BK183.out 0).trans rfl, (blk_cell BK183.out 1).trans rfl, (blk_cell BK183.out 2).trans rfl, (blk_cell BK183.out 3).trans rfl⟩ (fun hHeld => ?_); refine with_tabW tiklaw15_RecTells.tab9 tiklaw15_RecTells.bits9 (fun HT_ HW_ => ?_)
                        generalize w67.drew = w68 at HO188 HO195 HO198 HO205 HO214 BK182 BK183 BK208 BK217 HB hHeld ⊢
                        refine one_ (i := 0) (N := some 62) #[true, false, false, false, false, false, false, false, false, false, false, false, false, false, false, false, false, false, false, false, false, false, false, false, false, false, false, false, false, false, false, false, false, false, false, false, false, false, false, false, false, false, false, false, false, false, false] rfl rfl (one_of HT_.out (by kernel_rfl)) (by decide) (fun K hK => ?_)
                        refine goes_ Try.func10 (by kernel_rfl) rfl #[] (by rfl) rfl rfl (by (try simp only [List.map_toArray, List.map_cons, List.map_nil]); first | done | rfl | (simp only [List.length_drop, List.length_take]; rfl)) ?_
                        with_reducible refine (tiklaw15_first.calls kj6  true _ A29.out).mono ?_
                        rintro e w69 ⟨rfl, hb⟩
                        refine ⟨_, rfl, ?_⟩
                        have n0_ := Aside0.mk (Kd.R_below (by (with_reducible repeat (first | apply Kd.R_alloc | apply Kd.R_drewN | apply Kd.R_drew)); exact HO188.out) hb)
                        have n1_ := Aside0.mk (Kd.V_below (by (with_reducible repeat (first | apply Kd.V_alloc | apply Kd.V_drewN | apply Kd.V_drew)); exact HO195.out) hb)
                        have n2_ := Aside0.mk (Kd.R_below (by (with_reducible repeat (first | apply Kd.R_alloc | apply Kd.R_drewN | apply Kd.R_drew)); exact HO198.out) hb)
                        have n3_ := Aside0.mk (Kd.R_below (by (with_reducible repeat (first | apply Kd.R_alloc | apply Kd.R_drewN | apply Kd.R_drew)); exact HO205.out) hb)
                        have n4_ := Aside0.mk (Kd.R_below (by (with_reducible repeat (first | apply Kd.R_alloc | apply Kd.R_drewN | apply Kd.R_drew)); exact HO214.out) hb)
                        have n5_ := Aside0.mk (blk_below (g := gb182) (o := .cells #[.int .i64 a0_0, .int .u64 a0_1, .int .u64 a0_2, .slice A0_3 l0_3.length c0_3] 25 (0, 0)) (by (with_reducible repeat (first | refine blk_drewN ?_ _ | refine blk_drew ?_ | refine blk_alloc ?_ _)); exact BK182.out) hb)
                        have n6_ := Aside0.mk (blk_below (g := gb183) (o := .cells #[.int .i64 a1_0, .int .u64 a1_1, .int .u64 a1_2, .slice A1_3 l1_3.length c1_3] 25 (0, 0)) (by (with_reducible repeat (first | refine blk_drewN ?_ _ | refine blk_drew ?_ | refine blk_alloc ?_ _)); exact BK183.out) hb)
                        have n7_ := Aside0.mk (blk_below (g := gb208) (o := .cells #[.int .i64 t200, .int .u64 t201, .int .u64 t202, .slice Ao59 t203.length co59] 25 (0, 0)) (by (with_reducible repeat (first | refine blk_drewN ?_ _ | refine blk_drew ?_ | refine blk_alloc ?_ _)); exact BK208.out) hb)
                        have n8_ := Aside0.mk (blk_below (g := gb217) (o := .cells #[.int .i64 t209, .int .u64 t210, .int .u64 t211, .slice Ao66 t212.length co66] 31 (0, 0)) (by (with_reducible repeat (first | refine blk_drewN ?_ _ | refine blk_drew ?_ | refine blk_alloc ?_ _)); exact BK217.out) hb)
                        have n9_ := Aside0.mk (below_step (by repeat (first | (with_reducible first | exact HB.out | apply below_alloc | apply pw_below_drewN | apply below_drew1 | refine below_set ?_ GE182.out | refine below_set ?_ GE183.out | refine below_set ?_ GE208.out | refine below_set ?_ GE217.out) | exact HB.out)) hb)
                        clear HO188
                        clear HO195
                        clear HO198
                        clear HO205
                        clear HO214
                        clear BK182
                        clear BK183
                        clear BK208
                        clear BK217
                        clear HB
                        have HO188 := n0_
                        have HO195 := n1_
                        have HO198 := n2_
                        have HO205 := n3_
                        have HO214 := n4_
                        have BK182 := n5_
                        have BK183 := n6_
                        have BK208 := n7_
                        have BK217 := n8_
                        have HB := n9_
                        clear n0_ n1_ n2_ n3_ n4_ n5_ n6_ n7_ n8_ n9_
                        (try clear hb)
                        (try clear hb2)
                        (try clear hk)
                        (try clear hi)
                        obtain ⟨Ao70, co70, eo70⟩ := Kd.R_slice HO188.out
                        (first | subst eo70 | (injection eo70 with f1_ f2_ f3_; have f4_ := f1_.symm; have f5_ := f3_.symm; clear f1_ f2_ f3_; subst f4_; subst f5_))
                        obtain ⟨Ao71, co71, eo71⟩ := Kd.R_slice HO198.out
                        (first | subst eo71 | (injection eo71 with f1_ f2_ f3_; have f4_ := f1_.symm; have f5_ := f3_.symm; clear f1_ f2_ f3_; subst f4_; subst f5_))
                        refine hK.out _ _ ⟨(blk_cell BK208.out 0).trans rfl, (blk_cell BK208.out 1).trans rfl, (blk_cell BK208.out 2).trans rfl, (blk_cell BK208.out 3).trans rfl, (blk_cell BK217.out 0).trans rfl, (blk_cell BK217.out 1).trans rfl, (blk_cell BK217.out 2).trans rfl, (blk_cell BK217.out 3).trans rfl, (blk_cell BK182.out 0).trans rfl, (blk_cell BK182.out 1).trans rfl, (blk_cell BK182.out 2).trans rfl, (blk_cell BK182.out 3).trans rfl, (blk_cell BK183.out 0).trans rfl, (blk_cell BK183.out 1).trans rfl, (blk_cell BK183.out 2).trans rfl, (blk_cell BK183.out 3).trans rfl⟩ (fun hHeld => ?_)
                        clear hK K
                        refine norm_ (a' := ?_) ?_ ?_
                        rotate_left
                        · show Act.put _ (some 62) _ = _
                          simp only [Act.put, List.setIfInBounds_toArray, List.set_cons_zero, List.set_cons_succ, i64_w, i32_w]
                          rfl
                        refine pure_ (i := 1) (N := some 63) (v := ?_) (a' := ?_) #[true, true, false, false, false, false, false, false, false, false, false, false, false, false, false, false, false, false, false, false, false, false, false, false, false, false, false, false, false, false, false, false, false, false, false, false, false, false, false, false, false, false, false, false, false, false, false] rfl rfl (any_of HT_.out (by kernel_rfl)) (fun _ _ _ h => h) (Or.inl ⟨by rfl, ?_⟩) ?_ ?_
                        rotate_left
                        · intro w'
                          go_simp
                          with_reducible rfl
                        rotate_left
                        · simp only [Act.put, List.setIfInBounds_toArray, List.set_cons_zero, List.set_cons_succ, i64_w, i32_w]
                          rfl
                        refine pure_ (i := 2) (N := some 64) (v := ?_) (a' := ?_) #[true, true, true, false, false, false, false, false, false, false, false, false, false, false, false, false, false, false, false, false, false, false, false, false, false, false, false, false, false, false, false, false, false, false, false, false, false, false, false, false, false, false, false, false, false, false, false] rfl rfl (any_of HT_.out (by kernel_rfl)) (fun _ _ _ h => h) (Or.inl ⟨by rfl, ?_⟩) ?_ ?_
                        rotate_left
                        · intro w'
                          go_simp
                          with_reducible rfl
                        rotate_left
                        · simp only [Act.put, List.setIfInBounds_toArray, List.set_cons_zero, List.set_cons_succ, i64_w, i32_w]
                          rfl
                        refine pure_ (i := 3) (N := some 65) (v := ?_) (a' := ?_) #[true, true, true, true, false, false, false, false, false, false, false, false, false, false, false, false, false, false, false, false, false, false, false, false, false, false, false, false, false, false, false, false, false, false, false, false, false, false, false, false, false, false, false, false, false, false, false] rfl rfl (any_of HT_.out (by kernel_rfl)) (fun _ _ _ h => h) (Or.inl ⟨by rfl, ?_⟩) ?_ ?_
                        rotate_left
                        · intro w'
                          go_simp
                          with_reducible rfl
                        rotate_left
                        · simp only [Act.put, List.setIfInBounds_toArray, List.set_cons_zero, List.set_cons_succ, i64_w, i32_w]
                          rfl
                        refine one_ (i := 4) (N := some 66) #[true, true, true, true, true, false, false, false, false, false, false, false, false, false, false, false, false, false, false, false, false, false, false, false, false, false, false, false, false, false, false, false, false, false, false, false, false, false, false, false, false, false, false, false, false, false, false] rfl rfl (one_of HT_.out (by kernel_rfl)) (by decide) (fun K hK => ?_)
                        refine goes_ Try.func16 (by kernel_rfl) rfl #[.slice Ao70 t186.length co70, .slice Ao71 t196.length co71] (by rfl) rfl rfl (by (try simp only [List.map_toArray, List.map_cons, List.map_nil]); first | done | rfl | (simp only [List.length_drop, List.length_take]; rfl)) ?_
                        with_reducible refine (tikref_Bytes.calls _ _ t186 _ _ t196 true _ ?side1 ?side2 ?side3 ?side4 A31.out).mono ?_
                        (case side1 => repeat (first | exact (Kd.R_reads' HO188.out).2.2 | (with_reducible refine Kd.C_alloc ?_ _) | (with_reducible refine Kd.C_drewN ?_ _) | (with_reducible refine Kd.C_drew ?_)))
                        (case side2 => exact (Kd.R_reads' HO188.out).2.1)
                        (case side3 => repeat (first | exact (Kd.R_reads' HO198.out).2.2 | (with_reducible refine Kd.C_alloc ?_ _) | (with_reducible refine Kd.C_drewN ?_ _) | (with_reducible refine Kd.C_drew ?_)))
                        (case side4 => exact (Kd.R_reads' HO198.out).2.1)
                        rintro e w' ⟨rfl, ⟨nd, rfl⟩⟩
                        refine ⟨_, rfl, ?_⟩
                        refine hK.out _ _ ⟨(blk_cell BK208.out 0).trans rfl, (blk_cell BK208.out 1).trans rfl, (blk_cell BK208.out 2).trans rfl, (blk_cell BK208.out 3).trans rfl, (blk_cell BK217.out 0).trans rfl, (blk_cell BK217.out 1).trans rfl, (blk_cell BK217.out 2).trans rfl, (blk_cell BK217.out 3).trans rfl, (blk_cell BK182.out 0).trans rfl, (blk_cell BK182.out 1).trans rfl, (blk_cell BK182.out 2).trans rfl, (blk_cell BK182.out 3).trans rfl, (blk_cell BK183.out 0).trans rfl, (blk_cell BK183.out 1).trans rfl, (blk_cell BK183.out 2).trans rfl, (blk_cell BK183.out 3).trans rfl⟩ (fun hHeld => ?_)
                        clear hK K
                        refine norm_ (a' := ?_) ?_ ?_
                        rotate_left
                        · show Act.put _ (some 66) _ = _
                          simp only [Act.put, List.setIfInBounds_toArray, List.set_cons_zero, List.set_cons_succ, i64_w, i32_w]
                          rfl
                        refine pure_ (i := 5) (N := some 67) (v := ?_) (a' := ?_) #[true, true, true, true, true, true, false, false, false, false, false, false, false, false, false, false, false, false, false, false, false, false, false, false, false, false, false, false, false, false, false, false, false, false, false, false, false, false, false, false, false, false, false, false, false, false, false] rfl rfl (any_of HT_.out (by kernel_rfl)) (fun _ _ _ h => h) (Or.inl ⟨by rfl, ?_⟩) ?_ ?_
                        rotate_left
                        · intro w'
                          go_simp
                          with_reducible rfl
                        rotate_left
                        · simp only [Act.put, List.setIfInBounds_toArray, List.set_cons_zero, List.set_cons_succ, i64_w, i32_w]
                          rfl
                        refine pure_ (i := 6) (N := some 68) (v := ?_) (a' := ?_) #[true, true, true, true, true, true, true, false, false, false, false, false, false, false, false, false, false, false, false, false, false, false, false, false, false, false, false, false, false, false, false, false, false, false, false, false, false, false, false, false, false, false, false, false, false, false, false] rfl rfl (any_of HT_.out (by kernel_rfl)) (fun _ _ _ h => h) (Or.inl ⟨by rfl, ?_⟩) ?_ ?_
                        rotate_left
                        · intro w'
                          go_simp
                          with_reducible rfl
                        rotate_left
                        · simp only [Act.put, List.setIfInBounds_toArray, List.set_cons_zero, List.set_cons_succ, i64_w, i32_w]
                          rfl
                        refine pure_ (i := 7) (N := some 69) (v := ?_) (a' := ?_) #[true, true, true, true, true, true, true, true, false, false, false, false, false, false, false, false, false, false, false, false, false, false, false, false, false, false, false, false, false, false, false, false, false, false, false, false, false, false, false, false, false, false, false, false, false, false, false] rfl rfl (any_of HT_.out (by kernel_rfl)) (fun _ _ _ h => h) (Or.inl ⟨by rfl, ?_⟩) ?_ ?_
                        rotate_left
                        · intro w'
                          go_simp
                          with_reducible rfl
                        rotate_left
                        · simp only [Act.put, List.setIfInBounds_toArray, List.set_cons_zero, List.set_cons_succ, i64_w, i32_w]
                          rfl
                        refine pure_ (i := 8) (N := some 70) (v := ?_) (a' := ?_) #[true, true, true, true, true, true, true, true, true, false, false, false, false, false, false, false, false, false, false, false, false, false, false, false, false, false, false, false, false, false, false, false, false, false, false, false, false, false, false, false, false, false, false, false, false, false, false] rfl rfl (any_of HT_.out (by kernel_rfl)) (fun _ _ _ h => h) (Or.inl ⟨by rfl, ?_⟩) ?_ ?_
                        rotate_left
                        · intro w'
                          go_simp
                          with_reducible rfl
                        rotate_left
                        · simp only [Act.put, List.setIfInBounds_toArray, List.set_cons_zero, List.set_cons_succ, i64_w, i32_w]
                          rfl
                        refine pure_ (i := 9) (N := some 71) (v := ?_) (a' := ?_) #[true, true, true, true, true, true, true, true, true, true, false, false, false, false, false, false, false, false, false, false, false, false, false, false, false, false, false, false, false, false, false, false, false, false, false, false, false, false, false, false, false, false, false, false, false, false, false] rfl rfl (any_of HT_.out (by kernel_rfl)) (fun _ _ _ h => h) (Or.inl ⟨by rfl, ?_⟩) ?_ ?_
                        rotate_left
                        · intro w'
                          go_simp
                          with_reducible rfl
                        rotate_left
                        · simp only [Act.put, List.setIfInBounds_toArray, List.set_cons_zero, List.set_cons_succ, i64_w, i32_w]
                          rfl
                        refine pure_ (i := 10) (N := some 72) (v := ?_) (a' := ?_) #[true, true, true, true, true, true, true, true, true, true, true, false, false, false, false, false, false, false, false, false, false, false, false, false, false, false, false, false, false, false, false, false, false, false, false, false, false, false, false, false, false, false, false, false, false, false, false] rfl rfl (any_of HT_.out (by kernel_rfl)) (fun _ _ _ h => h) (Or.inl ⟨by rfl, ?_⟩) ?_ ?_
                        rotate_left
                        · intro w'
                          go_simp
                          with_reducible rfl
                        rotate_left
                        · simp only [Act.put, List.setIfInBounds_toArray, List.set_cons_zero, List.set_cons_succ, i64_w, i32_w]
                          rfl
                        refine pure_ (i := 11) (N := some 73) (v := ?_) (a' := ?_) #[true, true, true, true, true, true, true, true, true, true, true, true, false, false, false, false, false, false, false, false, false, false, false, false, false, false, false, false, false, false, false, false, false, false, false, false, false, false, false, false, false, false, false, false, false, false, false] rfl rfl (any_of HT_.out (by kernel_rfl)) (fun _ _ _ h => h) (Or.inl ⟨by rfl, ?_⟩) ?_ ?_
                        rotate_left
                        · intro w'
                          go_simp
                          with_reducible rfl
                        rotate_left
                        · simp only [Act.put, List.setIfInBounds_toArray, List.set_cons_zero, List.set_cons_succ, i64_w, i32_w]
                          rfl
                        refine take_ (i := 12) (N := some 74) (v := ?_) (a' := ?_) #[true, true, true, true, true, true, true, true, true, true, true, true, true, false, false, false, false, false, false, false, false, false, false, false, false, false, false, false, false, false, false, false, false, false, false, false, false, false, false, false, false, false, false, false, false, false, false] rfl rfl (take_ofW HT_.out HW_.out (by kernel_rfl)) (fun _ _ _ h => h) (Or.inl ⟨by rfl, ?_⟩) hHeld ?_ ?_
                        rotate_left
                        · rintro w' ⟨s0, s1, s2, s3, s4, s5, s6, s7, s8, s9, s10, s11, s12, s13, s14, s15⟩
                          go_simp
                          with_reducible rfl
                        rotate_left
                        · simp only [Act.put, List.setIfInBounds_toArray, List.set_cons_zero, List.set_cons_succ, i64_w, i32_w]
                          rfl
                        refine take_ (i := 14) (N := some 76) (v := ?_) (a' := ?_) #[true, true, true, true, true, true, true, true, true, true, true, true, true, false, true, false, false, false, false, false, false, false, false, false, false, false, false, false, false, false, false, false, false, false, false, false, false, false, false, false, false, false, false, false, false, false, false] rfl rfl (take_ofW HT_.out HW_.out (by kernel_rfl)) (fun _ _ _ h => h) (Or.inl ⟨by rfl, ?_⟩) hHeld ?_ ?_
                        rotate_left
                        · rintro w' ⟨s0, s1, s2, s3, s4, s5, s6, s7, s8, s9, s10, s11, s12, s13, s14, s15⟩
                          go_simp
                          with_reducible rfl
                        rotate_left
                        · simp only [Act.put, List.setIfInBounds_toArray, List.set_cons_zero, List.set_cons_succ, i64_w, i32_w]
                          rfl
                        refine one_ (i := 13) (N := some 75) #[true, true, true, true, true, true, true, true, true, true, true, true, true, true, true, false, false, false, false, false, false, false, false, false, false, false, false, false, false, false, false, false, false, false, false, false, false, false, false, false, false, false, false, false, false, false, false] rfl rfl (one_of HT_.out (by kernel_rfl)) (by decide) (fun K hK => ?_)
                        refine goes_ Try.func13 (by kernel_rfl) rfl #[.agg #[.int .i64 t200, .int .u64 t201, .int .u64 t202, .slice Ao59 t203.length co59]] (by rfl) rfl rfl (by (try simp only [List.map_toArray, List.map_cons, List.map_nil]); first | done | rfl | (simp only [List.length_drop, List.length_take]; rfl)) ?_
                        with_reducible refine (tiklaw15_Plain.calls t200 t201 t202 (fun k_ => some k_ = (.slice Ao59 t203.length co59 : Value).ownBlock) _ _ t203 t220 t221 t222 t223 _ ?side1 A34.out).mono ?_
                        (case side1 => exact Kd.R_V (Kd.R_tight rfl (Kd.R_types (Kd.R_types (Kd.R_types (Kd.R_types (HO205.out) BK182.out (by decide)) BK183.out (by decide)) BK208.out (by decide)) BK217.out (by decide))))
                        rintro e w72 ⟨v224, rfl, ho0, hb⟩
                        refine ⟨_, rfl, ?_⟩
                        have n0_ := Aside0.mk (Kd.R_below (by (with_reducible repeat (first | apply Kd.R_alloc | apply Kd.R_drewN | apply Kd.R_drew)); exact HO188.out) hb)
                        have n1_ := Aside0.mk (Kd.V_below (by (with_reducible repeat (first | apply Kd.V_alloc | apply Kd.V_drewN | apply Kd.V_drew)); exact HO195.out) hb)
                        have n2_ := Aside0.mk (Kd.R_below (by (with_reducible repeat (first | apply Kd.R_alloc | apply Kd.R_drewN | apply Kd.R_drew)); exact HO198.out) hb)
                        have n3_ := Aside0.mk (Kd.R_below (by (with_reducible repeat (first | apply Kd.R_alloc | apply Kd.R_drewN | apply Kd.R_drew)); exact HO205.out) hb)
                        have n4_ := Aside0.mk (Kd.R_below (by (with_reducible repeat (first | apply Kd.R_alloc | apply Kd.R_drewN | apply Kd.R_drew)); exact HO214.out) hb)
                        have n5_ := Aside0.mk (Kd.V_lower (Kd.V_mono (ok' := fun k_ => some k_ ≠ (.slice Ao70 t186.length co70 : Value).ownBlock ∧ some k_ ≠ (.slice Ao71 t196.length co71 : Value).ownBlock ∧ some k_ ≠ (.slice Ao66 t212.length co66 : Value).ownBlock ∧ k_ ≠ gb182 ∧ k_ ≠ gb183 ∧ k_ ≠ gb208 ∧ k_ ≠ gb217) ho0 (fun k_ hk_ => ⟨Or.elim hk_ (fun hs_ => ((Kd.R_types (Kd.R_types (Kd.R_types (Kd.R_types (HO205.out) BK182.out (by decide)) BK183.out (by decide)) BK208.out (by decide)) BK217.out (by decide)).1 k_ hs_.symm).1.1.1.1.1) (fun hn_ => (Kd.fresh' (Kd.R_lt (by (with_reducible repeat (first | apply Kd.R_alloc | apply Kd.R_drewN | apply Kd.R_drew)); exact HO188.out)) k_ hn_)), Or.elim hk_ (fun hs_ => ((Kd.R_types (Kd.R_types (Kd.R_types (Kd.R_types (HO205.out) BK182.out (by decide)) BK183.out (by decide)) BK208.out (by decide)) BK217.out (by decide)).1 k_ hs_.symm).1.1.1.1.2.1) (fun hn_ => (Kd.fresh' (Kd.R_lt (by (with_reducible repeat (first | apply Kd.R_alloc | apply Kd.R_drewN | apply Kd.R_drew)); exact HO198.out)) k_ hn_)), Or.elim hk_ (fun hs_ => ((Kd.R_types (Kd.R_types (Kd.R_types (Kd.R_types (HO205.out) BK182.out (by decide)) BK183.out (by decide)) BK208.out (by decide)) BK217.out (by decide)).1 k_ hs_.symm).1.1.1.1.2.2) (fun hn_ => (Kd.fresh' (Kd.R_lt (by (with_reducible repeat (first | apply Kd.R_alloc | apply Kd.R_drewN | apply Kd.R_drew)); exact HO214.out)) k_ hn_)), Or.elim hk_ (fun hs_ => ((Kd.R_types (Kd.R_types (Kd.R_types (Kd.R_types (HO205.out) BK182.out (by decide)) BK183.out (by decide)) BK208.out (by decide)) BK217.out (by decide)).1 k_ hs_.symm).1.1.1.2) (fun hn_ => (Kd.freshB (g := gb182) (o := .cells #[.int .i64 a0_0, .int .u64 a0_1, .int .u64 a0_2, .slice A0_3 l0_3.length c0_3] 25 (0, 0)) (by (with_reducible repeat (first | refine blk_drewN ?_ _ | refine blk_drew ?_ | refine blk_alloc ?_ _)); exact BK182.out) k_ hn_)), Or.elim hk_ (fun hs_ => ((Kd.R_types (Kd.R_types (Kd.R_types (Kd.R_types (HO205.out) BK182.out (by decide)) BK183.out (by decide)) BK208.out (by decide)) BK217.out (by decide)).1 k_ hs_.symm).1.1.2) (fun hn_ => (Kd.freshB (g := gb183) (o := .cells #[.int .i64 a1_0, .int .u64 a1_1, .int .u64 a1_2, .slice A1_3 l1_3.length c1_3] 25 (0, 0)) (by (with_reducible repeat (first | refine blk_drewN ?_ _ | refine blk_drew ?_ | refine blk_alloc ?_ _)); exact BK183.out) k_ hn_)), Or.elim hk_ (fun hs_ => ((Kd.R_types (Kd.R_types (Kd.R_types (Kd.R_types (HO205.out) BK182.out (by decide)) BK183.out (by decide)) BK208.out (by decide)) BK217.out (by decide)).1 k_ hs_.symm).1.2) (fun hn_ => (Kd.freshB (g := gb208) (o := .cells #[.int .i64 t200, .int .u64 t201, .int .u64 t202, .slice Ao59 t203.length co59] 25 (0, 0)) (by (with_reducible repeat (first | refine blk_drewN ?_ _ | refine blk_drew ?_ | refine blk_alloc ?_ _)); exact BK208.out) k_ hn_)), Or.elim hk_ (fun hs_ => ((Kd.R_types (Kd.R_types (Kd.R_types (Kd.R_types (HO205.out) BK182.out (by decide)) BK183.out (by decide)) BK208.out (by decide)) BK217.out (by decide)).1 k_ hs_.symm).2) (fun hn_ => (Kd.freshB (g := gb217) (o := .cells #[.int .i64 t209, .int .u64 t210, .int .u64 t211, .slice Ao66 t212.length co66] 31 (0, 0)) (by (with_reducible repeat (first | refine blk_drewN ?_ _ | refine blk_drew ?_ | refine blk_alloc ?_ _)); exact BK217.out) k_ hn_))⟩)) (below_size (by repeat (first | (with_reducible first | exact HB.out | apply below_alloc | apply pw_below_drewN | apply below_drew1 | refine below_set ?_ GE182.out | refine below_set ?_ GE183.out | refine below_set ?_ GE208.out | refine below_set ?_ GE217.out) | exact HB.out))))
                        have n6_ := Aside0.mk (blk_below (g := gb182) (o := .cells #[.int .i64 a0_0, .int .u64 a0_1, .int .u64 a0_2, .slice A0_3 l0_3.length c0_3] 25 (0, 0)) (by (with_reducible repeat (first | refine blk_drewN ?_ _ | refine blk_drew ?_ | refine blk_alloc ?_ _)); exact BK182.out) hb)
                        have n7_ := Aside0.mk (blk_below (g := gb183) (o := .cells #[.int .i64 a1_0, .int .u64 a1_1, .int .u64 a1_2, .slice A1_3 l1_3.length c1_3] 25 (0, 0)) (by (with_reducible repeat (first | refine blk_drewN ?_ _ | refine blk_drew ?_ | refine blk_alloc ?_ _)); exact BK183.out) hb)
                        have n8_ := Aside0.mk (blk_below (g := gb208) (o := .cells #[.int .i64 t200, .int .u64 t201, .int .u64 t202, .slice Ao59 t203.length co59] 25 (0, 0)) (by (with_reducible repeat (first | refine blk_drewN ?_ _ | refine blk_drew ?_ | refine blk_alloc ?_ _)); exact BK208.out) hb)
                        have n9_ := Aside0.mk (blk_below (g := gb217) (o := .cells #[.int .i64 t209, .int .u64 t210, .int .u64 t211, .slice Ao66 t212.length co66] 31 (0, 0)) (by (with_reducible repeat (first | refine blk_drewN ?_ _ | refine blk_drew ?_ | refine blk_alloc ?_ _)); exact BK217.out) hb)
                        have n10_ := Aside0.mk (below_step (by repeat (first | (with_reducible first | exact HB.out | apply below_alloc | apply pw_below_drewN | apply below_drew1 | refine below_set ?_ GE182.out | refine below_set ?_ GE183.out | refine below_set ?_ GE208.out | refine below_set ?_ GE217.out) | exact HB.out)) hb)
                        clear HO188
                        clear HO195
                        clear HO198
                        clear HO205
                        clear HO214
                        clear BK182
                        clear BK183
                        clear BK208
                        clear BK217
                        clear HB
                        have HO188 := n0_
                        have HO195 := n1_
                        have HO198 := n2_
                        have HO205 := n3_
                        have HO214 := n4_
                        have HO225 := n5_
                        have BK182 := n6_
                        have BK183 := n7_
                        have BK208 := n8_
                        have BK217 := n9_
                        have HB := n10_
                        clear n0_ n1_ n2_ n3_ n4_ n5_ n6_ n7_ n8_ n9_ n10_
                        (try clear hb)
                        (try clear hb2)
                        (try clear hk)
                        (try clear hi)
                        (try clear ho0)
                        obtain ⟨Ao73, co73, eo73⟩ := Kd.V_slice HO225.out
                        (first | subst eo73 | (injection eo73 with f1_ f2_ f3_; have f4_ := f1_.symm; have f5_ := f3_.symm; clear f1_ f2_ f3_; subst f4_; subst f5_))
                        refine hK.out _ _ ⟨(blk_cell BK208.out 0).trans rfl, (blk_cell BK208.out 1).trans rfl, (blk_cell BK208.out 2).trans rfl, (blk_cell BK208.out 3).trans rfl, (blk_cell BK217.out 0).trans rfl, (blk_cell BK217.out 1).trans rfl, (blk_cell BK217.out 2).trans rfl, (blk_cell BK217.out 3).trans rfl, (blk_cell BK182.out 0).trans rfl, (blk_cell BK182.out 1).trans rfl, (blk_cell BK182.out 2).trans rfl, (blk_cell BK182.out 3).trans rfl, (blk_cell BK183.out 0).trans rfl, (blk_cell BK183.out 1).trans rfl, (blk_cell BK183.out 2).trans rfl, (blk_cell BK183.out 3).trans rfl⟩ (fun hHeld => ?_)
                        clear hK K
                        refine norm_ (a' := ?_) ?_ ?_
                        rotate_left
                        · show Act.put _ (some 75) _ = _
                          simp only [Act.put, List.setIfInBounds_toArray, List.set_cons_zero, List.set_cons_succ, i64_w, i32_w]
                          rfl
                        refine one_ (i := 15) (N := some 77) #[true, true, true, true, true, true, true, true, true, true, true, true, true, true, true, true, false, false, false, false, false, false, false, false, false, false, false, false, false, false, false, false, false, false, false, false, false, false, false, false, false, false, false, false, false, false, false] rfl rfl (one_of HT_.out (by kernel_rfl)) (by decide) (fun K hK => ?_)
                        refine goes_ Try.func17 (by kernel_rfl) rfl #[.agg #[.int .i64 t220, .int .u64 t221, .int .u64 t222, .slice Ao73 t223.length co73], .agg #[.int .i64 t209, .int .u64 t210, .int .u64 t211, .slice Ao66 t212.length co66]] (by rfl) rfl rfl (by (try simp only [List.map_toArray, List.map_cons, List.map_nil]); first | done | rfl | (simp only [List.length_drop, List.length_take]; rfl)) ?_
                        with_reducible refine (tikref13_SameRecord.calls t220 t221 t222 _ _ t223 t209 t210 t211 _ _ t212 true _ ?side1 ?side2 ?side3 ?side4 A35.out).mono ?_
                        (case side1 => repeat (first | exact (Kd.V_reads' HO225.out).2.2 | (with_reducible refine Kd.C_alloc ?_ _) | (with_reducible refine Kd.C_drewN ?_ _) | (with_reducible refine Kd.C_drew ?_)))
                        (case side2 => exact (Kd.V_reads' HO225.out).2.1)
                        (case side3 => repeat (first | exact (Kd.R_reads' HO214.out).2.2 | (with_reducible refine Kd.C_alloc ?_ _) | (with_reducible refine Kd.C_drewN ?_ _) | (with_reducible refine Kd.C_drew ?_)))
                        (case side4 => exact (Kd.R_reads' HO214.out).2.1)
                        rintro e w74 ⟨rfl, hb⟩
                        refine ⟨_, rfl, ?_⟩
                        have n0_ := Aside0.mk (Kd.R_below (by (with_reducible repeat (first | apply Kd.R_alloc | apply Kd.R_drewN | apply Kd.R_drew)); exact HO188.out) hb)
                        have n1_ := Aside0.mk (Kd.V_below (by (with_reducible repeat (first | apply Kd.V_alloc | apply Kd.V_drewN | apply Kd.V_drew)); exact HO195.out) hb)
                        have n2_ := Aside0.mk (Kd.R_below (by (with_reducible repeat (first | apply Kd.R_alloc | apply Kd.R_drewN | apply Kd.R_drew)); exact HO198.out) hb)
                        have n3_ := Aside0.mk (Kd.R_below (by (with_reducible repeat (first | apply Kd.R_alloc | apply Kd.R_drewN | apply Kd.R_drew)); exact HO205.out) hb)
                        have n4_ := Aside0.mk (Kd.R_below (by (with_reducible repeat (first | apply Kd.R_alloc | apply Kd.R_drewN | apply Kd.R_drew)); exact HO214.out) hb)
                        have n5_ := Aside0.mk (Kd.V_below (by (with_reducible repeat (first | apply Kd.V_alloc | apply Kd.V_drewN | apply Kd.V_drew)); exact HO225.out) hb)
                        have n6_ := Aside0.mk (blk_below (g := gb182) (o := .cells #[.int .i64 a0_0, .int .u64 a0_1, .int .u64 a0_2, .slice A0_3 l0_3.length c0_3] 25 (0, 0)) (by (with_reducible repeat (first | refine blk_drewN ?_ _ | refine blk_drew ?_ | refine blk_alloc ?_ _)); exact BK182.out) hb)
                        have n7_ := Aside0.mk (blk_below (g := gb183) (o := .cells #[.int .i64 a1_0, .int .u64 a1_1, .int .u64 a1_2, .slice A1_3 l1_3.length c1_3] 25 (0, 0)) (by (with_reducible repeat (first | refine blk_drewN ?_ _ | refine blk_drew ?_ | refine blk_alloc ?_ _)); exact BK183.out) hb)
                        have n8_ := Aside0.mk (blk_below (g := gb208) (o := .cells #[.int .i64 t200, .int .u64 t201, .int .u64 t202, .slice Ao59 t203.length co59] 25 (0, 0)) (by (with_reducible repeat (first | refine blk_drewN ?_ _ | refine blk_drew ?_ | refine blk_alloc ?_ _)); exact BK208.out) hb)
                        have n9_ := Aside0.mk (blk_below (g := gb217) (o := .cells #[.int .i64 t209, .int .u64 t210, .int .u64 t211, .slice Ao66 t212.length co66] 31 (0, 0)) (by (with_reducible repeat (first | refine blk_drewN ?_ _ | refine blk_drew ?_ | refine blk_alloc ?_ _)); exact BK217.out) hb)
                        have n10_ := Aside0.mk (below_step (by repeat (first | (with_reducible first | exact HB.out | apply below_alloc | apply pw_below_drewN | apply below_drew1 | refine below_set ?_ GE182.out | refine below_set ?_ GE183.out | refine below_set ?_ GE208.out | refine below_set ?_ GE217.out) | exact HB.out)) hb)
                        clear HO188
                        clear HO195
                        clear HO198
                        clear HO205
                        clear HO214
                        clear HO225
                        clear BK182
                        clear BK183
                        clear BK208
                        clear BK217
                        clear HB
                        have HO188 := n0_
                        have HO195 := n1_
                        have HO198 := n2_
                        have HO205 := n3_
                        have HO214 := n4_
                        have HO225 := n5_
                        have BK182 := n6_
                        have BK183 := n7_
                        have BK208 := n8_
                        have BK217 := n9_
                        have HB := n10_
                        clear n0_ n1_ n2_ n3_ n4_ n5_ n6_ n7_ n8_ n9_ n10_
                        (try clear hb)
                        (try clear hb2)
                        (try clear hk)
                        (try clear hi)
                        refine hK.out _ _ ⟨(blk_cell BK208.out 0).trans rfl, (blk_cell BK208.out 1).trans rfl, (blk_cell BK208.out 2).trans rfl, (blk_cell BK208.out 3).trans rfl, (blk_cell BK217.out 0).trans rfl, (blk_cell BK217.out 1).trans rfl, (blk_cell BK217.out 2).trans rfl, (blk_cell BK217.out 3).trans rfl, (blk_cell BK182.out 0).trans rfl, (blk_cell BK182.out 1).trans rfl, (blk_cell BK182.out 2).trans rfl, (blk_cell BK182.out 3).trans rfl, (blk_cell BK183.out 0).trans rfl, (blk_cell BK183.out 1).trans rfl, (blk_cell BK183.out 2).trans rfl, (blk_cell BK183.out 3).trans rfl⟩ (fun hHeld => ?_)
                        clear hK K
                        refine norm_ (a' := ?_) ?_ ?_
                        rotate_left
                        · show Act.put _ (some 77) _ = _
                          simp only [Act.put, List.setIfInBounds_toArray, List.set_cons_zero, List.set_cons_succ, i64_w, i32_w]
                          rfl
                        refine pure_ (i := 16) (N := some 78) (v := ?_) (a' := ?_) #[true, true, true, true, true, true, true, true, true, true, true, true, true, true, true, true, true, false, false, false, false, false, false, false, false, false, false, false, false, false, false, false, false, false, false, false, false, false, false, false, false, false, false, false, false, false, false] rfl rfl (any_of HT_.out (by kernel_rfl)) (fun _ _ _ h => h) (Or.inl ⟨by rfl, ?_⟩) ?_ ?_
                        rotate_left
                        · intro w'
                          go_simp
                          with_reducible rfl
                        rotate_left
                        · simp only [Act.put, List.setIfInBounds_toArray, List.set_cons_zero, List.set_cons_succ, i64_w, i32_w]
                          rfl
                        refine pure_ (i := 17) (N := some 79) (v := ?_) (a' := ?_) #[true, true, true, true, true, true, true, true, true, true, true, true, true, true, true, true, true, true, false, false, false, false, false, false, false, false, false, false, false, false, false, false, false, false, false, false, false, false, false, false, false, false, false, false, false, false, false] rfl rfl (any_of HT_.out (by kernel_rfl)) (fun _ _ _ h => h) (Or.inl ⟨by rfl, ?_⟩) ?_ ?_
                        rotate_left
                        · intro w'
                          go_simp
                          with_reducible rfl
                        rotate_left
                        · simp only [Act.put, List.setIfInBounds_toArray, List.set_cons_zero, List.set_cons_succ, i64_w, i32_w]
                          rfl
                        refine pure_ (i := 18) (N := some 80) (v := ?_) (a' := ?_) #[true, true, true, true, true, true, true, true, true, true, true, true, true, true, true, true, true, true, true, false, false, false, false, false, false, false, false, false, false, false, false, false, false, false, false, false, false, false, false, false, false, false, false, false, false, false, false] rfl rfl (any_of HT_.out (by kernel_rfl)) (fun _ _ _ h => h) (Or.inl ⟨by rfl, ?_⟩) ?_ ?_
                        rotate_left
                        · intro w'
                          go_simp
                          with_reducible rfl
                        rotate_left
                        · simp only [Act.put, List.setIfInBounds_toArray, List.set_cons_zero, List.set_cons_succ, i64_w, i32_w]
                          rfl
                        refine pure_ (i := 19) (N := some 81) (v := ?_) (a' := ?_) #[true, true, true, true, true, true, true, true, true, true, true, true, true, true, true, true, true, true, true, true, false, false, false, false, false, false, false, false, false, false, false, false, false, false, false, false, false, false, false, false, false, false, false, false, false, false, false] rfl rfl (any_of HT_.out (by kernel_rfl)) (fun _ _ _ h => h) (Or.inl ⟨by rfl, ?_⟩) ?_ ?_
                        rotate_left
                        · intro w'
                          go_simp
                          with_reducible rfl
                        rotate_left
                        · simp only [Act.put, List.setIfInBounds_toArray, List.set_cons_zero, List.set_cons_succ, i64_w, i32_w]
                          rfl
                        refine pure_ (i := 20) (N := some 82) (v := ?_) (a' := ?_) #[true, true, true, true, true, true, true, true, true, true, true, true, true, true, true, true, true, true, true, true, true, false, false, false, false, false, false, false, false, false, false, false, false, false, false, false, false, false, false, false, false, false, false, false, false, false, false] rfl rfl (any_of HT_.out (by kernel_rfl)) (fun _ _ _ h => h) (Or.inl ⟨by rfl, ?_⟩) ?_ ?_
                        rotate_left
                        · intro w'
                          go_simp
                          with_reducible rfl
                        rotate_left
                        · simp only [Act.put, List.setIfInBounds_toArray, List.set_cons_zero, List.set_cons_succ, i64_w, i32_w]
                          rfl
                        refine pure_ (i := 21) (N := some 83) (v := ?_) (a' := ?_) #[true, true, true, true, true, true, true, true, true, true, true, true, true, true, true, true, true, true, true, true, true, true, false, false, false, false, false, false, false, false, false, false, false, false, false, false, false, false, false, false, false, false, false, false, false, false, false] rfl rfl (any_of HT_.out (by kernel_rfl)) (fun _ _ _ h => h) (Or.inl ⟨by rfl, ?_⟩) ?_ ?_
                        rotate_left
                        · intro w'
                          go_simp
                          with_reducible rfl
                        rotate_left
                        · simp only [Act.put, List.setIfInBounds_toArray, List.set_cons_zero, List.set_cons_succ, i64_w, i32_w]
                          rfl
                        refine pure_ (i := 22) (N := some 84) (v := ?_) (a' := ?_) #[true, true, true, true, true, true, true, true, true, true, true, true, true, true, true, true, true, true, true, true, true, true, true, false, false, false, false, false, false, false, false, false, false, false, false, false, false, false, false, false, false, false, false, false, false, false, false] rfl rfl (any_of HT_.out (by kernel_rfl)) (fun _ _ _ h => h) (Or.inl ⟨by rfl, ?_⟩) ?_ ?_
                        rotate_left
                        · intro w'
                          go_simp
                          with_reducible rfl
                        rotate_left
                        · simp only [Act.put, List.setIfInBounds_toArray, List.set_cons_zero, List.set_cons_succ, i64_w, i32_w]
                          rfl
                        refine pure_ (i := 23) (N := some 85) (v := ?_) (a' := ?_) #[true, true, true, true, true, true, true, true, true, true, true, true, true, true, true, true, true, true, true, true, true, true, true, true, false, false, false, false, false, false, false, false, false, false, false, false, false, false, false, false, false, false, false, false, false, false, false] rfl rfl (any_of HT_.out (by kernel_rfl)) (fun _ _ _ h => h) (Or.inl ⟨by rfl, ?_⟩) ?_ ?_
                        rotate_left
                        · intro w'
                          go_simp
                          with_reducible rfl
                        rotate_left
                        · simp only [Act.put, List.setIfInBounds_toArray, List.set_cons_zero, List.set_cons_succ, i64_w, i32_w]
                          rfl
                        refine pure_ (i := 24) (N := some 86) (v := ?_) (a' := ?_) #[true, true, true, true, true, true, true, true, true, true, true, true, true, true, true, true, true, true, true, true, true, true, true, true, true, false, false, false, false, false, false, false, false, false, false, false, false, false, false, false, false, false, false, false, false, false, false] rfl rfl (any_of HT_.out (by kernel_rfl)) (fun _ _ _ h => h) (Or.inl ⟨by rfl, ?_⟩) ?_ ?_
                        rotate_left
                        · intro w'
                          go_simp
                          with_reducible rfl
                        rotate_left
                        · simp only [Act.put, List.setIfInBounds_toArray, List.set_cons_zero, List.set_cons_succ, i64_w, i32_w]
                          rfl
                        refine pure_ (i := 25) (N := some 87) (v := ?_) (a' := ?_) #[true, true, true, true, true, true, true, true, true, true, true, true, true, true, true, true, true, true, true, true, true, true, true, true, true, true, false, false, false, false, false, false, false, false, false, false, false, false, false, false, false, false, false, false, false, false, false] rfl rfl (any_of HT_.out (by kernel_rfl)) (fun _ _ _ h => h) (Or.inl ⟨by rfl, ?_⟩) ?_ ?_
                        rotate_left
                        · intro w'
                          go_simp
                          with_reducible rfl
                        rotate_left
                        · simp only [Act.put, List.setIfInBounds_toArray, List.set_cons_zero, List.set_cons_succ, i64_w, i32_w]
                          rfl
                        refine pure_ (i := 26) (N := some 88) (v := ?_) (a' := ?_) #[true, true, true, true, true, true, true, true, true, true, true, true, true, true, true, true, true, true, true, true, true, true, true, true, true, true, true, false, false, false, false, false, false, false, false, false, false, false, false, false, false, false, false, false, false, false, false] rfl rfl (any_of HT_.out (by kernel_rfl)) (fun _ _ _ h => h) (Or.inl ⟨by rfl, ?_⟩) ?_ ?_
                        rotate_left
                        · intro w'
                          go_simp
                          with_reducible rfl
                        rotate_left
                        · simp only [Act.put, List.setIfInBounds_toArray, List.set_cons_zero, List.set_cons_succ, i64_w, i32_w]
                          rfl
                        refine pure_ (i := 27) (N := some 89) (v := ?_) (a' := ?_) #[true, true, true, true, true, true, true, true, true, true, true, true, true, true, true, true, true, true, true, true, true, true, true, true, true, true, true, true, false, false, false, false, false, false, false, false, false, false, false, false, false, false, false, false, false, false, false] rfl rfl (any_of HT_.out (by kernel_rfl)) (fun _ _ _ h => h) (Or.inl ⟨by rfl, ?_⟩) ?_ ?_
                        rotate_left
                        · intro w'
                          go_simp
                          with_reducible rfl
                        rotate_left
                        · simp only [Act.put, List.setIfInBounds_toArray, List.set_cons_zero, List.set_cons_succ, i64_w, i32_w]
                          rfl
                        refine take_ (i := 28) (N := some 90) (v := ?_) (a' := ?_) #[true, true, true, true, true, true, true, true, true, true, true, true, true, true, true, true, true, true, true, true, true, true, true, true, true, true, true, true, true, false, false, false, false, false, false, false, false, false, false, false, false, false, false, false, false, false, false] rfl rfl (take_ofW HT_.out HW_.out (by kernel_rfl)) (fun _ _ _ h => h) (Or.inl ⟨by rfl, ?_⟩) hHeld ?_ ?_
                        rotate_left
                        · rintro w' ⟨s0, s1, s2, s3, s4, s5, s6, s7, s8, s9, s10, s11, s12, s13, s14, s15⟩
                          go_simp
                          with_reducible rfl
                        rotate_left
                        · simp only [Act.put, List.setIfInBounds_toArray, List.set_cons_zero, List.set_cons_succ, i64_w, i32_w]
                          rfl
                        refine take_ (i := 30) (N := some 92) (v := ?_) (a' := ?_) #[true, true, true, true, true, true, true, true, true, true, true, true, true, true, true, true, true, true, true, true, true, true, true, true, true, true, true, true, true, false, true, false, false, false, false, false, false, false, false, false, false, false, false, false, false, false, false] rfl rfl (take_ofW HT_.out HW_.out (by kernel_rfl)) (fun _ _ _ h => h) (Or.inl ⟨by rfl, ?_⟩) hHeld ?_ ?_
                        rotate_left
                        · rintro w' ⟨s0, s1, s2, s3, s4, s5, s6, s7, s8, s9, s10, s11, s12, s13, s14, s15⟩
                          go_simp
                          with_reducible rfl
                        rotate_left
                        · simp only [Act.put, List.setIfInBounds_toArray, List.set_cons_zero, List.set_cons_succ, i64_w, i32_w]
                          rfl
                        refine one_ (i := 29) (N := some 91) #[true, true, true, true, true, true, true, true, true, true, true, true, true, true, true, true, true, true, true, true, true, true, true, true, true, true, true, true, true, true, true, false, false, false, false, false, false, false, false, false, false, false, false, false, false, false, false] rfl rfl (one_of HT_.out (by kernel_rfl)) (by decide) (fun K hK => ?_)
                        refine goes_ Try.func18 (by kernel_rfl) rfl #[.agg #[.int .i64 a0_0, .int .u64 a0_1, .int .u64 a0_2, .slice A0_3 l0_3.length c0_3]] (by rfl) rfl rfl (by (try simp only [List.map_toArray, List.map_cons, List.map_nil]); first | done | rfl | (simp only [List.length_drop, List.length_take]; rfl)) ?_
                        with_reducible refine (rec_May.calls a0_0 a0_1 a0_2 _ _ l0_3 t227 _ ?side1 ?side2 A39.out).mono ?_
                        (case side1 => repeat (first | exact (Kd.C_below HR0_3.out HB.out) | (with_reducible refine Kd.C_alloc ?_ _) | (with_reducible refine Kd.C_drewN ?_ _) | (with_reducible refine Kd.C_drew ?_)))
                        (case side2 => exact HC0_3.out)
                        rintro e w75 ⟨rfl, hb⟩
                        refine ⟨_, rfl, ?_⟩
                        have n0_ := Aside0.mk (Kd.R_below (by (with_reducible repeat (first | apply Kd.R_alloc | apply Kd.R_drewN | apply Kd.R_drew)); exact HO188.out) hb)
                        have n1_ := Aside0.mk (Kd.V_below (by (with_reducible repeat (first | apply Kd.V_alloc | apply Kd.V_drewN | apply Kd.V_drew)); exact HO195.out) hb)
                        have n2_ := Aside0.mk (Kd.R_below (by (with_reducible repeat (first | apply Kd.R_alloc | apply Kd.R_drewN | apply Kd.R_drew)); exact HO198.out) hb)
                        have n3_ := Aside0.mk (Kd.R_below (by (with_reducible repeat (first | apply Kd.R_alloc | apply Kd.R_drewN | apply Kd.R_drew)); exact HO205.out) hb)
                        have n4_ := Aside0.mk (Kd.R_below (by (with_reducible repeat (first | apply Kd.R_alloc | apply Kd.R_drewN | apply Kd.R_drew)); exact HO214.out) hb)
                        have n5_ := Aside0.mk (Kd.V_below (by (with_reducible repeat (first | apply Kd.V_alloc | apply Kd.V_drewN | apply Kd.V_drew)); exact HO225.out) hb)
                        have n6_ := Aside0.mk (blk_below (g := gb182) (o := .cells #[.int .i64 a0_0, .int .u64 a0_1, .int .u64 a0_2, .slice A0_3 l0_3.length c0_3] 25 (0, 0)) (by (with_reducible repeat (first | refine blk_drewN ?_ _ | refine blk_drew ?_ | refine blk_alloc ?_ _)); exact BK182.out) hb)
                        have n7_ := Aside0.mk (blk_below (g := gb183) (o := .cells #[.int .i64 a1_0, .int .u64 a1_1, .int .u64 a1_2, .slice A1_3 l1_3.length c1_3] 25 (0, 0)) (by (with_reducible repeat (first | refine blk_drewN ?_ _ | refine blk_drew ?_ | refine blk_alloc ?_ _)); exact BK183.out) hb)
                        have n8_ := Aside0.mk (blk_below (g := gb208) (o := .cells #[.int .i64 t200, .int .u64 t201, .int .u64 t202, .slice Ao59 t203.length co59] 25 (0, 0)) (by (with_reducible repeat (first | refine blk_drewN ?_ _ | refine blk_drew ?_ | refine blk_alloc ?_ _)); exact BK208.out) hb)
                        have n9_ := Aside0.mk (blk_below (g := gb217) (o := .cells #[.int .i64 t209, .int .u64 t210, .int .u64 t211, .slice Ao66 t212.length co66] 31 (0, 0)) (by (with_reducible repeat (first | refine blk_drewN ?_ _ | refine blk_drew ?_ | refine blk_alloc ?_ _)); exact BK217.out) hb)
                        have n10_ := Aside0.mk (below_step (by repeat (first | (with_reducible first | exact HB.out | apply below_alloc | apply pw_below_drewN | apply below_drew1 | refine below_set ?_ GE182.out | refine below_set ?_ GE183.out | refine below_set ?_ GE208.out | refine below_set ?_ GE217.out) | exact HB.out)) hb)
                        clear HO188
                        clear HO195
                        clear HO198
                        clear HO205
                        clear HO214
                        clear HO225
                        clear BK182
                        clear BK183
                        clear BK208
                        clear BK217
                        clear HB
                        have HO188 := n0_
                        have HO195 := n1_
                        have HO198 := n2_
                        have HO205 := n3_
                        have HO214 := n4_
                        have HO225 := n5_
                        have BK182 := n6_
                        have BK183 := n7_
                        have BK208 := n8_
                        have BK217 := n9_
                        have HB := n10_
                        clear n0_ n1_ n2_ n3_ n4_ n5_ n6_ n7_ n8_ n9_ n10_
                        (try clear hb)
                        (try clear hb2)
                        (try clear hk)
                        (try clear hi)
                        refine hK.out _ _ ⟨(blk_cell BK208.out 0).trans rfl, (blk_cell BK208.out 1).trans rfl, (blk_cell BK208.out 2).trans rfl, (blk_cell BK208.out 3).trans rfl, (blk_cell BK217.out 0).trans rfl, (blk_cell BK217.out 1).trans rfl, (blk_cell BK217.out 2).trans rfl, (blk_cell BK217.out 3).trans rfl, (blk_cell BK182.out 0).trans rfl, (blk_cell BK182.out 1).trans rfl, (blk_cell BK182.out 2).trans rfl, (blk_cell BK182.out 3).trans rfl, (blk_cell BK183.out 0).trans rfl, (blk_cell BK183.out 1).trans rfl, (blk_cell BK183.out 2).trans rfl, (blk_cell BK183.out 3).trans rfl⟩ (fun hHeld => ?_)
                        clear hK K
                        refine norm_ (a' := ?_) ?_ ?_
                        rotate_left
                        · show Act.put _ (some 91) _ = _
                          simp only [Act.put, List.setIfInBounds_toArray, List.set_cons_zero, List.set_cons_succ, i64_w, i32_w]
                          rfl
                        refine one_ (i := 31) (N := some 93) #[true, true, true, true, true, true, true, true, true, true, true, true, true, true, true, true, true, true, true, true, true, true, true, true, true, true, true, true, true, true, true, true, false, false, false, false, false, false, false, false, false, false, false, false, false, false, false] rfl rfl (one_of HT_.out (by kernel_rfl)) (by decide) (fun K hK => ?_)
                        refine goes_ Try.func13 (by kernel_rfl) rfl #[.agg #[.int .i64 a0_0, .int .u64 a0_1, .int .u64 a0_2, .slice A0_3 l0_3.length c0_3]] (by rfl) rfl rfl (by (try simp only [List.map_toArray, List.map_cons, List.map_nil]); first | done | rfl | (simp only [List.length_drop, List.length_take]; rfl)) ?_
                        with_reducible refine (tiklaw15_Plain.calls a0_0 a0_1 a0_2 (fun k_ => k_ < w.heap.size) _ _ l0_3 t228 t229 t230 t231 _ ?side1 A40.out).mono ?_
                        (case side1 => exact Kd.V_mk HC0_3.out (Kd.F_below (Kd.C_F (Kd.heap_int .u8) HR0_3.out) (by repeat (first | (with_reducible first | exact HB.out | apply below_alloc | apply pw_below_drewN | apply below_drew1 | refine below_set ?_ GE182.out | refine below_set ?_ GE183.out | refine below_set ?_ GE208.out | refine below_set ?_ GE217.out) | exact HB.out))))
                        rintro e w76 ⟨v232, rfl, ho0, hb⟩
                        refine ⟨_, rfl, ?_⟩
                        have n0_ := Aside0.mk (Kd.R_below (by (with_reducible repeat (first | apply Kd.R_alloc | apply Kd.R_drewN | apply Kd.R_drew)); exact HO188.out) hb)
                        have n1_ := Aside0.mk (Kd.V_below (by (with_reducible repeat (first | apply Kd.V_alloc | apply Kd.V_drewN | apply Kd.V_drew)); exact HO195.out) hb)
                        have n2_ := Aside0.mk (Kd.R_below (by (with_reducible repeat (first | apply Kd.R_alloc | apply Kd.R_drewN | apply Kd.R_drew)); exact HO198.out) hb)
                        have n3_ := Aside0.mk (Kd.R_below (by (with_reducible repeat (first | apply Kd.R_alloc | apply Kd.R_drewN | apply Kd.R_drew)); exact HO205.out) hb)
                        have n4_ := Aside0.mk (Kd.R_below (by (with_reducible repeat (first | apply Kd.R_alloc | apply Kd.R_drewN | apply Kd.R_drew)); exact HO214.out) hb)
                        have n5_ := Aside0.mk (Kd.V_below (by (with_reducible repeat (first | apply Kd.V_alloc | apply Kd.V_drewN | apply Kd.V_drew)); exact HO225.out) hb)
                        have n6_ := Aside0.mk (Kd.V_lower (Kd.V_mono (ok' := fun k_ => some k_ ≠ (.slice Ao70 t186.length co70 : Value).ownBlock ∧ some k_ ≠ (.slice Ao71 t196.length co71 : Value).ownBlock ∧ some k_ ≠ (.slice Ao59 t203.length co59 : Value).ownBlock ∧ some k_ ≠ (.slice Ao66 t212.length co66 : Value).ownBlock ∧ k_ ≠ gb182 ∧ k_ ≠ gb183 ∧ k_ ≠ gb208 ∧ k_ ≠ gb217) ho0 (fun k_ hk_ => ⟨Or.elim hk_ (fun hs_ => fun e_ => Nat.not_le.2 hs_ (Kd.R_base HO188.out k_ e_.symm)) (fun hn_ => (Kd.fresh' (Kd.R_lt (by (with_reducible repeat (first | apply Kd.R_alloc | apply Kd.R_drewN | apply Kd.R_drew)); exact HO188.out)) k_ hn_)), Or.elim hk_ (fun hs_ => fun e_ => Nat.not_le.2 hs_ (Kd.R_base HO198.out k_ e_.symm)) (fun hn_ => (Kd.fresh' (Kd.R_lt (by (with_reducible repeat (first | apply Kd.R_alloc | apply Kd.R_drewN | apply Kd.R_drew)); exact HO198.out)) k_ hn_)), Or.elim hk_ (fun hs_ => fun e_ => Nat.not_le.2 hs_ (Kd.R_base HO205.out k_ e_.symm)) (fun hn_ => (Kd.fresh' (Kd.R_lt (by (with_reducible repeat (first | apply Kd.R_alloc | apply Kd.R_drewN | apply Kd.R_drew)); exact HO205.out)) k_ hn_)), Or.elim hk_ (fun hs_ => fun e_ => Nat.not_le.2 hs_ (Kd.R_base HO214.out k_ e_.symm)) (fun hn_ => (Kd.fresh' (Kd.R_lt (by (with_reducible repeat (first | apply Kd.R_alloc | apply Kd.R_drewN | apply Kd.R_drew)); exact HO214.out)) k_ hn_)), Or.elim hk_ (fun hs_ => fun e_ => Nat.not_le.2 hs_ (by rw [e_]; exact GW182.out)) (fun hn_ => (Kd.freshB (g := gb182) (o := .cells #[.int .i64 a0_0, .int .u64 a0_1, .int .u64 a0_2, .slice A0_3 l0_3.length c0_3] 25 (0, 0)) (by (with_reducible repeat (first | refine blk_drewN ?_ _ | refine blk_drew ?_ | refine blk_alloc ?_ _)); exact BK182.out) k_ hn_)), Or.elim hk_ (fun hs_ => fun e_ => Nat.not_le.2 hs_ (by rw [e_]; exact GW183.out)) (fun hn_ => (Kd.freshB (g := gb183) (o := .cells #[.int .i64 a1_0, .int .u64 a1_1, .int .u64 a1_2, .slice A1_3 l1_3.length c1_3] 25 (0, 0)) (by (with_reducible repeat (first | refine blk_drewN ?_ _ | refine blk_drew ?_ | refine blk_alloc ?_ _)); exact BK183.out) k_ hn_)), Or.elim hk_ (fun hs_ => fun e_ => Nat.not_le.2 hs_ (by rw [e_]; exact GW208.out)) (fun hn_ => (Kd.freshB (g := gb208) (o := .cells #[.int .i64 t200, .int .u64 t201, .int .u64 t202, .slice Ao59 t203.length co59] 25 (0, 0)) (by (with_reducible repeat (first | refine blk_drewN ?_ _ | refine blk_drew ?_ | refine blk_alloc ?_ _)); exact BK208.out) k_ hn_)), Or.elim hk_ (fun hs_ => fun e_ => Nat.not_le.2 hs_ (by rw [e_]; exact GW217.out)) (fun hn_ => (Kd.freshB (g := gb217) (o := .cells #[.int .i64 t209, .int .u64 t210, .int .u64 t211, .slice Ao66 t212.length co66] 31 (0, 0)) (by (with_reducible repeat (first | refine blk_drewN ?_ _ | refine blk_drew ?_ | refine blk_alloc ?_ _)); exact BK217.out) k_ hn_))⟩)) (below_size (by repeat (first | (with_reducible first | exact HB.out | apply below_alloc | apply pw_below_drewN | apply below_drew1 | refine below_set ?_ GE182.out | refine below_set ?_ GE183.out | refine below_set ?_ GE208.out | refine below_set ?_ GE217.out) | exact HB.out))))
                        have n7_ := Aside0.mk (blk_below (g := gb182) (o := .cells #[.int .i64 a0_0, .int .u64 a0_1, .int .u64 a0_2, .slice A0_3 l0_3.length c0_3] 25 (0, 0)) (by (with_reducible repeat (first | refine blk_drewN ?_ _ | refine blk_drew ?_ | refine blk_alloc ?_ _)); exact BK182.out) hb)
                        have n8_ := Aside0.mk (blk_below (g := gb183) (o := .cells #[.int .i64 a1_0, .int .u64 a1_1, .int .u64 a1_2, .slice A1_3 l1_3.length c1_3] 25 (0, 0)) (by (with_reducible repeat (first | refine blk_drewN ?_ _ | refine blk_drew ?_ | refine blk_alloc ?_ _)); exact BK183.out) hb)
                        have n9_ := Aside0.mk (blk_below (g := gb208) (o := .cells #[.int .i64 t200, .int .u64 t201, .int .u64 t202, .slice Ao59 t203.length co59] 25 (0, 0)) (by (with_reducible repeat (first | refine blk_drewN ?_ _ | refine blk_drew ?_ | refine blk_alloc ?_ _)); exact BK208.out) hb)
                        have n10_ := Aside0.mk (blk_below (g := gb217) (o := .cells #[.int .i64 t209, .int .u64 t210, .int .u64 t211, .slice Ao66 t212.length co66] 31 (0, 0)) (by (with_reducible repeat (first | refine blk_drewN ?_ _ | refine blk_drew ?_ | refine blk_alloc ?_ _)); exact BK217.out) hb)
                        have n11_ := Aside0.mk (below_step (by repeat (first | (with_reducible first | exact HB.out | apply below_alloc | apply pw_below_drewN | apply below_drew1 | refine below_set ?_ GE182.out | refine below_set ?_ GE183.out | refine below_set ?_ GE208.out | refine below_set ?_ GE217.out) | exact HB.out)) hb)
                        clear HO188
                        clear HO195
                        clear HO198
                        clear HO205
                        clear HO214
                        clear HO225
                        clear BK182
                        clear BK183
                        clear BK208
                        clear BK217
                        clear HB
                        have HO188 := n0_
                        have HO195 := n1_
                        have HO198 := n2_
                        have HO205 := n3_
                        have HO214 := n4_
                        have HO225 := n5_
                        have HO233 := n6_
                        have BK182 := n7_
                        have BK183 := n8_
                        have BK208 := n9_
                        have BK217 := n10_
                        have HB := n11_
                        clear n0_ n1_ n2_ n3_ n4_ n5_ n6_ n7_ n8_ n9_ n10_ n11_
                        (try clear hb)
                        (try clear hb2)
                        (try clear hk)
                        (try clear hi)
                        (try clear ho0)
                        obtain ⟨Ao77, co77, eo77⟩ := Kd.V_slice HO233.out
                        (first | subst eo77 | (injection eo77 with f1_ f2_ f3_; have f4_ := f1_.symm; have f5_ := f3_.symm; clear f1_ f2_ f3_; subst f4_; subst f5_))
                        refine hK.out _ _ ⟨(blk_cell BK208.out 0).trans rfl, (blk_cell BK208.out 1).trans rfl, (blk_cell BK208.out 2).trans rfl, (blk_cell BK208.out 3).trans rfl, (blk_cell BK217.out 0).trans rfl, (blk_cell BK217.out 1).trans rfl, (blk_cell BK217.out 2).trans rfl, (blk_cell BK217.out 3).trans rfl, (blk_cell BK182.out 0).trans rfl, (blk_cell BK182.out 1).trans rfl, (blk_cell BK182.out 2).trans rfl, (blk_cell BK182.out 3).trans rfl, (blk_cell BK183.out 0).trans rfl, (blk_cell BK183.out 1).trans rfl, (blk_cell BK183.out 2).trans rfl, (blk_cell BK183.out 3).trans rfl⟩ (fun hHeld => ?_)
                        clear hK K
                        refine norm_ (a' := ?_) ?_ ?_
                        rotate_left
                        · show Act.put _ (some 93) _ = _
                          simp only [Act.put, List.setIfInBounds_toArray, List.set_cons_zero, List.set_cons_succ, i64_w, i32_w]
                          rfl
                        refine one_ (i := 32) (N := some 94) #[true, true, true, true, true, true, true, true, true, true, true, true, true, true, true, true, true, true, true, true, true, true, true, true, true, true, true, true, true, true, true, true, true, false, false, false, false, false, false, false, false, false, false, false, false, false, false] rfl rfl (one_of HT_.out (by kernel_rfl)) (by decide) (fun K hK => ?_)
                        refine goes_ Try.func19 (by kernel_rfl) rfl #[.agg #[.int .i64 t228, .int .u64 t229, .int .u64 t230, .slice Ao77 t231.length co77]] (by rfl) rfl rfl (by (try simp only [List.map_toArray, List.map_cons, List.map_nil]); first | done | rfl | (simp only [List.length_drop, List.length_take]; rfl)) ?_
                        with_reducible refine (tikref13_MayRecord.calls t228 t229 t230 _ _ t231 t234 _ ?side1 ?side2 A41.out).mono ?_
                        (case side1 => repeat (first | exact (Kd.V_reads' HO233.out).2.2 | (with_reducible refine Kd.C_alloc ?_ _) | (with_reducible refine Kd.C_drewN ?_ _) | (with_reducible refine Kd.C_drew ?_)))
                        (case side2 => exact (Kd.V_reads' HO233.out).2.1)
                        rintro e w78 ⟨rfl, hb⟩
                        refine ⟨_, rfl, ?_⟩
                        have n0_ := Aside0.mk (Kd.R_below (by (with_reducible repeat (first | apply Kd.R_alloc | apply Kd.R_drewN | apply Kd.R_drew)); exact HO188.out) hb)
                        have n1_ := Aside0.mk (Kd.V_below (by (with_reducible repeat (first | apply Kd.V_alloc | apply Kd.V_drewN | apply Kd.V_drew)); exact HO195.out) hb)
                        have n2_ := Aside0.mk (Kd.R_below (by (with_reducible repeat (first | apply Kd.R_alloc | apply Kd.R_drewN | apply Kd.R_drew)); exact HO198.out) hb)
                        have n3_ := Aside0.mk (Kd.R_below (by (with_reducible repeat (first | apply Kd.R_alloc | apply Kd.R_drewN | apply Kd.R_drew)); exact HO205.out) hb)
                        have n4_ := Aside0.mk (Kd.R_below (by (with_reducible repeat (first | apply Kd.R_alloc | apply Kd.R_drewN | apply Kd.R_drew)); exact HO214.out) hb)
                        have n5_ := Aside0.mk (Kd.V_below (by (with_reducible repeat (first | apply Kd.V_alloc | apply Kd.V_drewN | apply Kd.V_drew)); exact HO225.out) hb)
                        have n6_ := Aside0.mk (Kd.V_below (by (with_reducible repeat (first | apply Kd.V_alloc | apply Kd.V_drewN | apply Kd.V_drew)); exact HO233.out) hb)
                        have n7_ := Aside0.mk (blk_below (g := gb182) (o := .cells #[.int .i64 a0_0, .int .u64 a0_1, .int .u64 a0_2, .slice A0_3 l0_3.length c0_3] 25 (0, 0)) (by (with_reducible repeat (first | refine blk_drewN ?_ _ | refine blk_drew ?_ | refine blk_alloc ?_ _)); exact BK182.out) hb)
                        have n8_ := Aside0.mk (blk_below (g := gb183) (o := .cells #[.int .i64 a1_0, .int .u64 a1_1, .int .u64 a1_2, .slice A1_3 l1_3.length c1_3] 25 (0, 0)) (by (with_reducible repeat (first | refine blk_drewN ?_ _ | refine blk_drew ?_ | refine blk_alloc ?_ _)); exact BK183.out) hb)
                        have n9_ := Aside0.mk (blk_below (g := gb208) (o := .cells #[.int .i64 t200, .int .u64 t201, .int .u64 t202, .slice Ao59 t203.length co59] 25 (0, 0)) (by (with_reducible repeat (first | refine blk_drewN ?_ _ | refine blk_drew ?_ | refine blk_alloc ?_ _)); exact BK208.out) hb)
                        have n10_ := Aside0.mk (blk_below (g := gb217) (o := .cells #[.int .i64 t209, .int .u64 t210, .int .u64 t211, .slice Ao66 t212.length co66] 31 (0, 0)) (by (with_reducible repeat (first | refine blk_drewN ?_ _ | refine blk_drew ?_ | refine blk_alloc ?_ _)); exact BK217.out) hb)
                        have n11_ := Aside0.mk (below_step (by repeat (first | (with_reducible first | exact HB.out | apply below_alloc | apply pw_below_drewN | apply below_drew1 | refine below_set ?_ GE182.out | refine below_set ?_ GE183.out | refine below_set ?_ GE208.out | refine below_set ?_ GE217.out) | exact HB.out)) hb)
                        clear HO188
                        clear HO195
                        clear HO198
                        clear HO205
                        clear HO214
                        clear HO225
                        clear HO233
                        clear BK182
                        clear BK183
                        clear BK208
                        clear BK217
                        clear HB
                        have HO188 := n0_
                        have HO195 := n1_
                        have HO198 := n2_
                        have HO205 := n3_
                        have HO214 := n4_
                        have HO225 := n5_
                        have HO233 := n6_
                        have BK182 := n7_
                        have BK183 := n8_
                        have BK208 := n9_
                        have BK217 := n10_
                        have HB := n11_
                        clear n0_ n1_ n2_ n3_ n4_ n5_ n6_ n7_ n8_ n9_ n10_ n11_
                        (try clear hb)
                        (try clear hb2)
                        (try clear hk)
                        (try clear hi)
                        refine hK.out _ _ ⟨(blk_cell BK208.out 0).trans rfl, (blk_cell BK208.out 1).trans rfl, (blk_cell BK208.out 2).trans rfl, (blk_cell BK208.out 3).trans rfl, (blk_cell BK217.out 0).trans rfl, (blk_cell BK217.out 1).trans rfl, (blk_cell BK217.out 2).trans rfl, (blk_cell BK217.out 3).trans rfl, (blk_cell BK182.out 0).trans rfl, (blk_cell BK182.out 1).trans rfl, (blk_cell BK182.out 2).trans rfl, (blk_cell BK182.out 3).trans rfl, (blk_cell BK183.out 0).trans rfl, (blk_cell BK183.out 1).trans rfl, (blk_cell BK183.out 2).trans rfl, (blk_cell BK183.out 3).trans rfl⟩ (fun hHeld => ?_)
                        clear hK K
                        refine norm_ (a' := ?_) ?_ ?_
                        rotate_left
                        · show Act.put _ (some 94) _ = _
                          simp only [Act.put, List.setIfInBounds_toArray, List.set_cons_zero, List.set_cons_succ, i64_w, i32_w]
                          rfl
                        refine pure_ (i := 33) (N := some 95) (v := ?_) (a' := ?_) #[true, true, true, true, true, true, true, true, true, true, true, true, true, true, true, true, true, true, true, true, true, true, true, true, true, true, true, true, true, true, true, true, true, true, false, false, false, false, false, false, false, false, false, false, false, false, false] rfl rfl (any_of HT_.out (by kernel_rfl)) (fun _ _ _ h => h) (Or.inl ⟨by rfl, ?_⟩) ?_ ?_
                        rotate_left
                        · intro w'
                          go_simp
                          with_reducible rfl
                        rotate_left
                        · simp only [Act.put, List.setIfInBounds_toArray, List.set_cons_zero, List.set_cons_succ, i64_w, i32_w]
                          rfl
                        refine pure_ (i := 34) (N := some 96) (v := ?_) (a' := ?_) #[true, true, true, true, true, true, true, true, true, true, true, true, true, true, true, true, true, true, true, true, true, true, true, true, true, true, true, true, true, true, true, true, true, true, true, false, false, false, false, false, false, false, false, false, false, false, false] rfl rfl (any_of HT_.out (by kernel_rfl)) (fun _ _ _ h => h) (Or.inl ⟨by rfl, ?_⟩) ?_ ?_
                        rotate_left
                        · intro w'
                          go_simp
                          with_reducible rfl
                        rotate_left
                        · simp only [Act.put, List.setIfInBounds_toArray, List.set_cons_zero, List.set_cons_succ, i64_w, i32_w]
                          rfl
                        refine pure_ (i := 35) (N := some 97) (v := ?_) (a' := ?_) #[true, true, true, true, true, true, true, true, true, true, true, true, true, true, true, true, true, true, true, true, true, true, true, true, true, true, true, true, true, true, true, true, true, true, true, true, false, false, false, false, false, false, false, false, false, false, false] rfl rfl (any_of HT_.out (by kernel_rfl)) (fun _ _ _ h => h) (Or.inl ⟨by rfl, ?_⟩) ?_ ?_
                        rotate_left
                        · intro w'
                          go_simp
                          with_reducible rfl
                        rotate_left
                        · simp only [Act.put, List.setIfInBounds_toArray, List.set_cons_zero, List.set_cons_succ, i64_w, i32_w]
                          rfl
                        refine take_ (i := 36) (N := some 98) (v := ?_) (a' := ?_) #[true, true, true, true, true, true, true, true, true, true, true, true, true, true, true, true, true, true, true, true, true, true, true, true, true, true, true, true, true, true, true, true, true, true, true, true, true, false, false, false, false, false, false, false, false, false, false] rfl rfl (take_ofW HT_.out HW_.out (by kernel_rfl)) (fun _ _ _ h => h) (Or.inl ⟨by rfl, ?_⟩) hHeld ?_ ?_
                        rotate_left
                        · rintro w' ⟨s0, s1, s2, s3, s4, s5, s6, s7, s8, s9, s10, s11, s12, s13, s14, s15⟩
                          go_simp
                          with_reducible rfl
                        rotate_left
                        · simp only [Act.put, List.setIfInBounds_toArray, List.set_cons_zero, List.set_cons_succ, i64_w, i32_w]
                          rfl
                        refine take_ (i := 37) (N := some 99) (v := ?_) (a' := ?_) #[true, true, true, true, true, true, true, true, true, true, true, true, true, true, true, true, true, true, true, true, true, true, true, true, true, true, true, true, true, true, true, true, true, true, true, true, true, true, false, false, false, false, false, false, false, false, false] rfl rfl (take_ofW HT_.out HW_.out (by kernel_rfl)) (fun _ _ _ h => h) (Or.inl ⟨by rfl, ?_⟩) hHeld ?_ ?_
                        rotate_left
                        · rintro w' ⟨s0, s1, s2, s3, s4, s5, s6, s7, s8, s9, s10, s11, s12, s13, s14, s15⟩
                          go_simp
                          with_reducible rfl
                        rotate_left
                        · simp only [Act.put, List.setIfInBounds_toArray, List.set_cons_zero, List.set_cons_succ, i64_w, i32_w]
                          rfl
                        refine take_ (i := 39) (N := some 101) (v := ?_) (a' := ?_) #[true, true, true, true, true, true, true, true, true, true, true, true, true, true, true, true, true, true, true, true, true, true, true, true, true, true, true, true, true, true, true, true, true, true, true, true, true, true, false, true, false, false, false, false, false, false, false] rfl rfl (take_ofW HT_.out HW_.out (by kernel_rfl)) (fun _ _ _ h => h) (Or.inl ⟨by rfl, ?_⟩) hHeld ?_ ?_
                        rotate_left
                        · rintro w' ⟨s0, s1, s2, s3, s4, s5, s6, s7, s8, s9, s10, s11, s12, s13, s14, s15⟩
                          go_simp
                          with_reducible rfl
                        rotate_left
                        · simp only [Act.put, List.setIfInBounds_toArray, List.set_cons_zero, List.set_cons_succ, i64_w, i32_w]
                          rfl
                        refine take_ (i := 41) (N := some 103) (v := ?_) (a' := ?_) #[true, true, true, true, true, true, true, true, true, true, true, true, true, true, true, true, true, true, true, true, true, true, true, true, true, true, true, true, true, true, true, true, true, true, true, true, true, true, false, true, false, true, false, false, false, false, false] rfl rfl (take_ofW HT_.out HW_.out (by kernel_rfl)) (fun _ _ _ h => h) (Or.inl ⟨by rfl, ?_⟩) hHeld ?_ ?_
                        rotate_left
                        · rintro w' ⟨s0, s1, s2, s3, s4, s5, s6, s7, s8, s9, s10, s11, s12, s13, s14, s15⟩
                          go_simp
                          with_reducible rfl
                        rotate_left
                        · simp only [Act.put, List.setIfInBounds_toArray, List.set_cons_zero, List.set_cons_succ, i64_w, i32_w]
                          rfl
                        refine one_ (i := 38) (N := some 100) #[true, true, true, true, true, true, true, true, true, true, true, true, true, true, true, true, true, true, true, true, true, true, true, true, true, true, true, true, true, true, true, true, true, true, true, true, true, true, true, true, false, true, false, false, false, false, false] rfl rfl (one_of HT_.out (by kernel_rfl)) (by decide) (fun K hK => ?_)
                        refine goes_ Try.func20 (by kernel_rfl) rfl #[.agg #[.int .i64 a0_0, .int .u64 a0_1, .int .u64 a0_2, .slice A0_3 l0_3.length c0_3], .agg #[.int .i64 a1_0, .int .u64 a1_1, .int .u64 a1_2, .slice A1_3 l1_3.length c1_3]] (by rfl) rfl rfl (by (try simp only [List.map_toArray, List.map_cons, List.map_nil]); first | done | rfl | (simp only [List.length_drop, List.length_take]; rfl)) ?_
                        with_reducible refine (rec_Same.calls a0_0 a0_1 a0_2 _ _ l0_3 a1_0 a1_1 a1_2 _ _ l1_3 t235 _ ?side1 ?side2 ?side3 ?side4 A43.out).mono ?_
                        (case side1 => repeat (first | exact (Kd.C_below HR0_3.out HB.out) | (with_reducible refine Kd.C_alloc ?_ _) | (with_reducible refine Kd.C_drewN ?_ _) | (with_reducible refine Kd.C_drew ?_)))
                        (case side2 => exact HC0_3.out)
                        (case side3 => repeat (first | exact (Kd.C_below HR1_3.out HB.out) | (with_reducible refine Kd.C_alloc ?_ _) | (with_reducible refine Kd.C_drewN ?_ _) | (with_reducible refine Kd.C_drew ?_)))
                        (case side4 => exact HC1_3.out)
                        rintro e w79 ⟨rfl, hb⟩
                        refine ⟨_, rfl, ?_⟩
                        have n0_ := Aside0.mk (Kd.R_below (by (with_reducible repeat (first | apply Kd.R_alloc | apply Kd.R_drewN | apply Kd.R_drew)); exact HO188.out) hb)
                        have n1_ := Aside0.mk (Kd.V_below (by (with_reducible repeat (first | apply Kd.V_alloc | apply Kd.V_drewN | apply Kd.V_drew)); exact HO195.out) hb)
                        have n2_ := Aside0.mk (Kd.R_below (by (with_reducible repeat (first | apply Kd.R_alloc | apply Kd.R_drewN | apply Kd.R_drew)); exact HO198.out) hb)
                        have n3_ := Aside0.mk (Kd.R_below (by (with_reducible repeat (first | apply Kd.R_alloc | apply Kd.R_drewN | apply Kd.R_drew)); exact HO205.out) hb)
                        have n4_ := Aside0.mk (Kd.R_below (by (with_reducible repeat (first | apply Kd.R_alloc | apply Kd.R_drewN | apply Kd.R_drew)); exact HO214.out) hb)
                        have n5_ := Aside0.mk (Kd.V_below (by (with_reducible repeat (first | apply Kd.V_alloc | apply Kd.V_drewN | apply Kd.V_drew)); exact HO225.out) hb)
                        have n6_ := Aside0.mk (Kd.V_below (by (with_reducible repeat (first | apply Kd.V_alloc | apply Kd.V_drewN | apply Kd.V_drew)); exact HO233.out) hb)
                        have n7_ := Aside0.mk (blk_below (g := gb182) (o := .cells #[.int .i64 a0_0, .int .u64 a0_1, .int .u64 a0_2, .slice A0_3 l0_3.length c0_3] 25 (0, 0)) (by (with_reducible repeat (first | refine blk_drewN ?_ _ | refine blk_drew ?_ | refine blk_alloc ?_ _)); exact BK182.out) hb)
                        have n8_ := Aside0.mk (blk_below (g := gb183) (o := .cells #[.int .i64 a1_0, .int .u64 a1_1, .int .u64 a1_2, .slice A1_3 l1_3.length c1_3] 25 (0, 0)) (by (with_reducible repeat (first | refine blk_drewN ?_ _ | refine blk_drew ?_ | refine blk_alloc ?_ _)); exact BK183.out) hb)
                        have n9_ := Aside0.mk (blk_below (g := gb208) (o := .cells #[.int .i64 t200, .int .u64 t201, .int .u64 t202, .slice Ao59 t203.length co59] 25 (0, 0)) (by (with_reducible repeat (first | refine blk_drewN ?_ _ | refine blk_drew ?_ | refine blk_alloc ?_ _)); exact BK208.out) hb)
                        have n10_ := Aside0.mk (blk_below (g := gb217) (o := .cells #[.int .i64 t209, .int .u64 t210, .int .u64 t211, .slice Ao66 t212.length co66] 31 (0, 0)) (by (with_reducible repeat (first | refine blk_drewN ?_ _ | refine blk_drew ?_ | refine blk_alloc ?_ _)); exact BK217.out) hb)
                        have n11_ := Aside0.mk (below_step (by repeat (first | (with_reducible first | exact HB.out | apply below_alloc | apply pw_below_drewN | apply below_drew1 | refine below_set ?_ GE182.out | refine below_set ?_ GE183.out | refine below_set ?_ GE208.out | refine below_set ?_ GE217.out) | exact HB.out)) hb)
                        clear HO188
                        clear HO195
                        clear HO198
                        clear HO205
                        clear HO214
                        clear HO225
                        clear HO233
                        clear BK182
                        clear BK183
                        clear BK208
                        clear BK217
                        clear HB
                        have HO188 := n0_
                        have HO195 := n1_
                        have HO198 := n2_
                        have HO205 := n3_
                        have HO214 := n4_
                        have HO225 := n5_
                        have HO233 := n6_
                        have BK182 := n7_
                        have BK183 := n8_
                        have BK208 := n9_
                        have BK217 := n10_
                        have HB := n11_
                        clear n0_ n1_ n2_ n3_ n4_ n5_ n6_ n7_ n8_ n9_ n10_ n11_
                        (try clear hb)
                        (try clear hb2)
                        (try clear hk)
                        (try clear hi)
                        refine hK.out _ _ ⟨(blk_cell BK208.out 0).trans rfl, (blk_cell BK208.out 1).trans rfl, (blk_cell BK208.out 2).trans rfl, (blk_cell BK208.out 3).trans rfl, (blk_cell BK217.out 0).trans rfl, (blk_cell BK217.out 1).trans rfl, (blk_cell BK217.out 2).trans rfl, (blk_cell BK217.out 3).trans rfl, (blk_cell BK182.out 0).trans rfl, (blk_cell BK182.out 1).trans rfl, (blk_cell BK182.out 2).trans rfl, (blk_cell BK182.out 3).trans rfl, (blk_cell BK183.out 0).trans rfl, (blk_cell BK183.out 1).trans rfl, (blk_cell BK183.out 2).trans rfl, (blk_cell BK183.out 3).trans rfl⟩ (fun hHeld => ?_)
                        clear hK K
                        refine norm_ (a' := ?_) ?_ ?_
                        rotate_left
                        · show Act.put _ (some 100) _ = _
                          simp only [Act.put, List.setIfInBounds_toArray, List.set_cons_zero, List.set_cons_succ, i64_w, i32_w]
                          rfl
                        refine one_ (i := 40) (N := some 102) #[true, true, true, true, true, true, true, true, true, true, true, true, true, true, true, true, true, true, true, true, true, true, true, true, true, true, true, true, true, true, true, true, true, true, true, true, true, true, true, true, true, true, false, false, false, false, false] rfl rfl (one_of HT_.out (by kernel_rfl)) (by decide) (fun K hK => ?_)
                        refine goes_ Try.func13 (by kernel_rfl) rfl #[.agg #[.int .i64 a0_0, .int .u64 a0_1, .int .u64 a0_2, .slice A0_3 l0_3.length c0_3]] (by rfl) rfl rfl (by (try simp only [List.map_toArray, List.map_cons, List.map_nil]); first | done | rfl | (simp only [List.length_drop, List.length_take]; rfl)) ?_
                        with_reducible refine (tiklaw15_Plain.calls a0_0 a0_1 a0_2 (fun k_ => k_ < w.heap.size) _ _ l0_3 t236 t237 t238 t239 _ ?side1 A44.out).mono ?_
                        (case side1 => exact Kd.V_mk HC0_3.out (Kd.F_below (Kd.C_F (Kd.heap_int .u8) HR0_3.out) (by repeat (first | (with_reducible first | exact HB.out | apply below_alloc | apply pw_below_drewN | apply below_drew1 | refine below_set ?_ GE182.out | refine below_set ?_ GE183.out | refine below_set ?_ GE208.out | refine below_set ?_ GE217.out) | exact HB.out))))
                        rintro e w80 ⟨v240, rfl, ho0, hb⟩
                        refine ⟨_, rfl, ?_⟩
                        have n0_ := Aside0.mk (Kd.R_below (by (with_reducible repeat (first | apply Kd.R_alloc | apply Kd.R_drewN | apply Kd.R_drew)); exact HO188.out) hb)
                        have n1_ := Aside0.mk (Kd.V_below (by (with_reducible repeat (first | apply Kd.V_alloc | apply Kd.V_drewN | apply Kd.V_drew)); exact HO195.out) hb)
                        have n2_ := Aside0.mk (Kd.R_below (by (with_reducible repeat (first | apply Kd.R_alloc | apply Kd.R_drewN | apply Kd.R_drew)); exact HO198.out) hb)
                        have n3_ := Aside0.mk (Kd.R_below (by (with_reducible repeat (first | apply Kd.R_alloc | apply Kd.R_drewN | apply Kd.R_drew)); exact HO205.out) hb)
                        have n4_ := Aside0.mk (Kd.R_below (by (with_reducible repeat (first | apply Kd.R_alloc | apply Kd.R_drewN | apply Kd.R_drew)); exact HO214.out) hb)
                        have n5_ := Aside0.mk (Kd.V_below (by (with_reducible repeat (first | apply Kd.V_alloc | apply Kd.V_drewN | apply Kd.V_drew)); exact HO225.out) hb)
                        have n6_ := Aside0.mk (Kd.V_below (by (with_reducible repeat (first | apply Kd.V_alloc | apply Kd.V_drewN | apply Kd.V_drew)); exact HO233.out) hb)
                        have n7_ := Aside0.mk (Kd.V_lower (Kd.V_mono (ok' := fun k_ => some k_ ≠ (.slice Ao70 t186.length co70 : Value).ownBlock ∧ some k_ ≠ (.slice Ao71 t196.length co71 : Value).ownBlock ∧ some k_ ≠ (.slice Ao59 t203.length co59 : Value).ownBlock ∧ some k_ ≠ (.slice Ao66 t212.length co66 : Value).ownBlock ∧ k_ ≠ gb182 ∧ k_ ≠ gb183 ∧ k_ ≠ gb208 ∧ k_ ≠ gb217) ho0 (fun k_ hk_ => ⟨Or.elim hk_ (fun hs_ => fun e_ => Nat.not_le.2 hs_ (Kd.R_base HO188.out k_ e_.symm)) (fun hn_ => (Kd.fresh' (Kd.R_lt (by (with_reducible repeat (first | apply Kd.R_alloc | apply Kd.R_drewN | apply Kd.R_drew)); exact HO188.out)) k_ hn_)), Or.elim hk_ (fun hs_ => fun e_ => Nat.not_le.2 hs_ (Kd.R_base HO198.out k_ e_.symm)) (fun hn_ => (Kd.fresh' (Kd.R_lt (by (with_reducible repeat (first | apply Kd.R_alloc | apply Kd.R_drewN | apply Kd.R_drew)); exact HO198.out)) k_ hn_)), Or.elim hk_ (fun hs_ => fun e_ => Nat.not_le.2 hs_ (Kd.R_base HO205.out k_ e_.symm)) (fun hn_ => (Kd.fresh' (Kd.R_lt (by (with_reducible repeat (first | apply Kd.R_alloc | apply Kd.R_drewN | apply Kd.R_drew)); exact HO205.out)) k_ hn_)), Or.elim hk_ (fun hs_ => fun e_ => Nat.not_le.2 hs_ (Kd.R_base HO214.out k_ e_.symm)) (fun hn_ => (Kd.fresh' (Kd.R_lt (by (with_reducible repeat (first | apply Kd.R_alloc | apply Kd.R_drewN | apply Kd.R_drew)); exact HO214.out)) k_ hn_)), Or.elim hk_ (fun hs_ => fun e_ => Nat.not_le.2 hs_ (by rw [e_]; exact GW182.out)) (fun hn_ => (Kd.freshB (g := gb182) (o := .cells #[.int .i64 a0_0, .int .u64 a0_1, .int .u64 a0_2, .slice A0_3 l0_3.length c0_3] 25 (0, 0)) (by (with_reducible repeat (first | refine blk_drewN ?_ _ | refine blk_drew ?_ | refine blk_alloc ?_ _)); exact BK182.out) k_ hn_)), Or.elim hk_ (fun hs_ => fun e_ => Nat.not_le.2 hs_ (by rw [e_]; exact GW183.out)) (fun hn_ => (Kd.freshB (g := gb183) (o := .cells #[.int .i64 a1_0, .int .u64 a1_1, .int .u64 a1_2, .slice A1_3 l1_3.length c1_3] 25 (0, 0)) (by (with_reducible repeat (first | refine blk_drewN ?_ _ | refine blk_drew ?_ | refine blk_alloc ?_ _)); exact BK183.out) k_ hn_)), Or.elim hk_ (fun hs_ => fun e_ => Nat.not_le.2 hs_ (by rw [e_]; exact GW208.out)) (fun hn_ => (Kd.freshB (g := gb208) (o := .cells #[.int .i64 t200, .int .u64 t201, .int .u64 t202, .slice Ao59 t203.length co59] 25 (0, 0)) (by (with_reducible repeat (first | refine blk_drewN ?_ _ | refine blk_drew ?_ | refine blk_alloc ?_ _)); exact BK208.out) k_ hn_)), Or.elim hk_ (fun hs_ => fun e_ => Nat.not_le.2 hs_ (by rw [e_]; exact GW217.out)) (fun hn_ => (Kd.freshB (g := gb217) (o := .cells #[.int .i64 t209, .int .u64 t210, .int .u64 t211, .slice Ao66 t212.length co66] 31 (0, 0)) (by (with_reducible repeat (first | refine blk_drewN ?_ _ | refine blk_drew ?_ | refine blk_alloc ?_ _)); exact BK217.out) k_ hn_))⟩)) (below_size (by repeat (first | (with_reducible first | exact HB.out | apply below_alloc | apply pw_below_drewN | apply below_drew1 | refine below_set ?_ GE182.out | refine below_set ?_ GE183.out | refine below_set ?_ GE208.out | refine below_set ?_ GE217.out) | exact HB.out))))
                        have n8_ := Aside0.mk (blk_below (g := gb182) (o := .cells #[.int .i64 a0_0, .int .u64 a0_1, .int .u64 a0_2, .slice A0_3 l0_3.length c0_3] 25 (0, 0)) (by (with_reducible repeat (first | refine blk_drewN ?_ _ | refine blk_drew ?_ | refine blk_alloc ?_ _)); exact BK182.out) hb)
                        have n9_ := Aside0.mk (blk_below (g := gb183) (o := .cells #[.int .i64 a1_0, .int .u64 a1_1, .int .u64 a1_2, .slice A1_3 l1_3.length c1_3] 25 (0, 0)) (by (with_reducible repeat (first | refine blk_drewN ?_ _ | refine blk_drew ?_ | refine blk_alloc ?_ _)); exact BK183.out) hb)
                        have n10_ := Aside0.mk (blk_below (g := gb208) (o := .cells #[.int .i64 t200, .int .u64 t201, .int .u64 t202, .slice Ao59 t203.length co59] 25 (0, 0)) (by (with_reducible repeat (first | refine blk_drewN ?_ _ | refine blk_drew ?_ | refine blk_alloc ?_ _)); exact BK208.out) hb)
                        have n11_ := Aside0.mk (blk_below (g := gb217) (o := .cells #[.int .i64 t209, .int .u64 t210, .int .u64 t211, .slice Ao66 t212.length co66] 31 (0, 0)) (by (with_reducible repeat (first | refine blk_drewN ?_ _ | refine blk_drew ?_ | refine blk_alloc ?_ _)); exact BK217.out) hb)
                        have n12_ := Aside0.mk (below_step (by repeat (first | (with_reducible first | exact HB.out | apply below_alloc | apply pw_below_drewN | apply below_drew1 | refine below_set ?_ GE182.out | refine below_set ?_ GE183.out | refine below_set ?_ GE208.out | refine below_set ?_ GE217.out) | exact HB.out)) hb)
                        clear HO188
                        clear HO195
                        clear HO198
                        clear HO205
                        clear HO214
                        clear HO225
                        clear HO233
                        clear BK182
                        clear BK183
                        clear BK208
                        clear BK217
                        clear HB
                        have HO188 := n0_
                        have HO195 := n1_
                        have HO198 := n2_
                        have HO205 := n3_
                        have HO214 := n4_
                        have HO225 := n5_
                        have HO233 := n6_
                        have HO241 := n7_
                        have BK182 := n8_
                        have BK183 := n9_
                        have BK208 := n10_
                        have BK217 := n11_
                        have HB := n12_
                        clear n0_ n1_ n2_ n3_ n4_ n5_ n6_ n7_ n8_ n9_ n10_ n11_ n12_
                        (try clear hb)
                        (try clear hb2)
                        (try clear hk)
                        (try clear hi)
                        (try clear ho0)
                        refine hK.out _ _ ⟨(blk_cell BK208.out 0).trans rfl, (blk_cell BK208.out 1).trans rfl, (blk_cell BK208.out 2).trans rfl, (blk_cell BK208.out 3).trans rfl, (blk_cell BK217.out 0).trans rfl, (blk_cell BK217.out 1).trans rfl, (blk_cell BK217.out 2).trans rfl, (blk_cell BK217.out 3).trans rfl, (blk_cell BK182.out 0).trans rfl, (blk_cell BK182.out 1).trans rfl, (blk_cell BK182.out 2).trans rfl, (blk_cell BK182.out 3).trans rfl, (blk_cell BK183.out 0).trans rfl, (blk_cell BK183.out 1).trans rfl, (blk_cell BK183.out 2).trans rfl, (blk_cell BK183.out 3).trans rfl⟩ (fun hHeld => ?_)
                        clear hK K
                        refine norm_ (a' := ?_) ?_ ?_
                        rotate_left
                        · show Act.put _ (some 102) _ = _
                          simp only [Act.put, List.setIfInBounds_toArray, List.set_cons_zero, List.set_cons_succ, i64_w, i32_w]
                          rfl
                        refine one_ (i := 42) (N := some 104) #[true, true, true, true, true, true, true, true, true, true, true, true, true, true, true, true, true, true, true, true, true, true, true, true, true, true, true, true, true, true, true, true, true, true, true, true, true, true, true, true, true, true, true, false, false, false, false] rfl rfl (one_of HT_.out (by kernel_rfl)) (by decide) (fun K hK => ?_)
                        refine goes_ Try.func13 (by kernel_rfl) rfl #[.agg #[.int .i64 a1_0, .int .u64 a1_1, .int .u64 a1_2, .slice A1_3 l1_3.length c1_3]] (by rfl) rfl rfl (by (try simp only [List.map_toArray, List.map_cons, List.map_nil]); first | done | rfl | (simp only [List.length_drop, List.length_take]; rfl)) ?_
                        with_reducible refine (tiklaw15_Plain.calls a1_0 a1_1 a1_2 (fun k_ => k_ < w.heap.size) _ _ l1_3 t242 t243 t244 t245 _ ?side1 A45.out).mono ?_
                        (case side1 => exact Kd.V_mk HC1_3.out (Kd.F_below (Kd.C_F (Kd.heap_int .u8) HR1_3.out) (by repeat (first | (with_reducible first | exact HB.out | apply below_alloc | apply pw_below_drewN | apply below_drew1 | refine below_set ?_ GE182.out | refine below_set ?_ GE183.out | refine below_set ?_ GE208.out | refine below_set ?_ GE217.out) | exact HB.out))))
                        rintro e w81 ⟨v246, rfl, ho0, hb⟩
                        refine ⟨_, rfl, ?_⟩
                        have n0_ := Aside0.mk (Kd.R_below (by (with_reducible repeat (first | apply Kd.R_alloc | apply Kd.R_drewN | apply Kd.R_drew)); exact HO188.out) hb)
                        have n1_ := Aside0.mk (Kd.V_below (by (with_reducible repeat (first | apply Kd.V_alloc | apply Kd.V_drewN | apply Kd.V_drew)); exact HO195.out) hb)
                        have n2_ := Aside0.mk (Kd.R_below (by (with_reducible repeat (first | apply Kd.R_alloc | apply Kd.R_drewN | apply Kd.R_drew)); exact HO198.out) hb)
                        have n3_ := Aside0.mk (Kd.R_below (by (with_reducible repeat (first | apply Kd.R_alloc | apply Kd.R_drewN | apply Kd.R_drew)); exact HO205.out) hb)
                        have n4_ := Aside0.mk (Kd.R_below (by (with_reducible repeat (first | apply Kd.R_alloc | apply Kd.R_drewN | apply Kd.R_drew)); exact HO214.out) hb)
                        have n5_ := Aside0.mk (Kd.V_below (by (with_reducible repeat (first | apply Kd.V_alloc | apply Kd.V_drewN | apply Kd.V_drew)); exact HO225.out) hb)
                        have n6_ := Aside0.mk (Kd.V_below (by (with_reducible repeat (first | apply Kd.V_alloc | apply Kd.V_drewN | apply Kd.V_drew)); exact HO233.out) hb)
                        have n7_ := Aside0.mk (Kd.V_below (by (with_reducible repeat (first | apply Kd.V_alloc | apply Kd.V_drewN | apply Kd.V_drew)); exact HO241.out) hb)
                        have n8_ := Aside0.mk (Kd.V_lower (Kd.V_mono (ok' := fun k_ => some k_ ≠ (.slice Ao70 t186.length co70 : Value).ownBlock ∧ some k_ ≠ (.slice Ao71 t196.length co71 : Value).ownBlock ∧ some k_ ≠ (.slice Ao59 t203.length co59 : Value).ownBlock ∧ some k_ ≠ (.slice Ao66 t212.length co66 : Value).ownBlock ∧ k_ ≠ gb182 ∧ k_ ≠ gb183 ∧ k_ ≠ gb208 ∧ k_ ≠ gb217) ho0 (fun k_ hk_ => ⟨Or.elim hk_ (fun hs_ => fun e_ => Nat.not_le.2 hs_ (Kd.R_base HO188.out k_ e_.symm)) (fun hn_ => (Kd.fresh' (Kd.R_lt (by (with_reducible repeat (first | apply Kd.R_alloc | apply Kd.R_drewN | apply Kd.R_drew)); exact HO188.out)) k_ hn_)), Or.elim hk_ (fun hs_ => fun e_ => Nat.not_le.2 hs_ (Kd.R_base HO198.out k_ e_.symm)) (fun hn_ => (Kd.fresh' (Kd.R_lt (by (with_reducible repeat (first | apply Kd.R_alloc | apply Kd.R_drewN | apply Kd.R_drew)); exact HO198.out)) k_ hn_)), Or.elim hk_ (fun hs_ => fun e_ => Nat.not_le.2 hs_ (Kd.R_base HO205.out k_ e_.symm)) (fun hn_ => (Kd.fresh' (Kd.R_lt (by (with_reducible repeat (first | apply Kd.R_alloc | apply Kd.R_drewN | apply Kd.R_drew)); exact HO205.out)) k_ hn_)), Or.elim hk_ (fun hs_ => fun e_ => Nat.not_le.2 hs_ (Kd.R_base HO214.out k_ e_.symm)) (fun hn_ => (Kd.fresh' (Kd.R_lt (by (with_reducible repeat (first | apply Kd.R_alloc | apply Kd.R_drewN | apply Kd.R_drew)); exact HO214.out)) k_ hn_)), Or.elim hk_ (fun hs_ => fun e_ => Nat.not_le.2 hs_ (by rw [e_]; exact GW182.out)) (fun hn_ => (Kd.freshB (g := gb182) (o := .cells #[.int .i64 a0_0, .int .u64 a0_1, .int .u64 a0_2, .slice A0_3 l0_3.length c0_3] 25 (0, 0)) (by (with_reducible repeat (first | refine blk_drewN ?_ _ | refine blk_drew ?_ | refine blk_alloc ?_ _)); exact BK182.out) k_ hn_)), Or.elim hk_ (fun hs_ => fun e_ => Nat.not_le.2 hs_ (by rw [e_]; exact GW183.out)) (fun hn_ => (Kd.freshB (g := gb183) (o := .cells #[.int .i64 a1_0, .int .u64 a1_1, .int .u64 a1_2, .slice A1_3 l1_3.length c1_3] 25 (0, 0)) (by (with_reducible repeat (first | refine blk_drewN ?_ _ | refine blk_drew ?_ | refine blk_alloc ?_ _)); exact BK183.out) k_ hn_)), Or.elim hk_ (fun hs_ => fun e_ => Nat.not_le.2 hs_ (by rw [e_]; exact GW208.out)) (fun hn_ => (Kd.freshB (g := gb208) (o := .cells #[.int .i64 t200, .int .u64 t201, .int .u64 t202, .slice Ao59 t203.length co59] 25 (0, 0)) (by (with_reducible repeat (first | refine blk_drewN ?_ _ | refine blk_drew ?_ | refine blk_alloc ?_ _)); exact BK208.out) k_ hn_)), Or.elim hk_ (fun hs_ => fun e_ => Nat.not_le.2 hs_ (by rw [e_]; exact GW217.out)) (fun hn_ => (Kd.freshB (g := gb217) (o := .cells #[.int .i64 t209, .int .u64 t210, .int .u64 t211, .slice Ao66 t212.length co66] 31 (0, 0)) (by (with_reducible repeat (first | refine blk_drewN ?_ _ | refine blk_drew ?_ | refine blk_alloc ?_ _)); exact BK217.out) k_ hn_))⟩)) (below_size (by repeat (first | (with_reducible first | exact HB.out | apply below_alloc | apply pw_below_drewN | apply below_drew1 | refine below_set ?_ GE182.out | refine below_set ?_ GE183.out | refine below_set ?_ GE208.out | refine below_set ?_ GE217.out) | exact HB.out))))
                        have n9_ := Aside0.mk (blk_below (g := gb182) (o := .cells #[.int .i64 a0_0, .int .u64 a0_1, .int .u64 a0_2, .slice A0_3 l0_3.length c0_3] 25 (0, 0)) (by (with_reducible repeat (first | refine blk_drewN ?_ _ | refine blk_drew ?_ | refine blk_alloc ?_ _)); exact BK182.out) hb)
                        have n10_ := Aside0.mk (blk_below (g := gb183) (o := .cells #[.int .i64 a1_0, .int .u64 a1_1, .int .u64 a1_2, .slice A1_3 l1_3.length c1_3] 25 (0, 0)) (by (with_reducible repeat (first | refine blk_drewN ?_ _ | refine blk_drew ?_ | refine blk_alloc ?_ _)); exact BK183.out) hb)
                        have n11_ := Aside0.mk (blk_below (g := gb208) (o := .cells #[.int .i64 t200, .int .u64 t201, .int .u64 t202, .slice Ao59 t203.length co59] 25 (0, 0)) (by (with_reducible repeat (first | refine blk_drewN ?_ _ | refine blk_drew ?_ | refine blk_alloc ?_ _)); exact BK208.out) hb)
                        have n12_ := Aside0.mk (blk_below (g := gb217) (o := .cells #[.int .i64 t209, .int .u64 t210, .int .u64 t211, .slice Ao66 t212.length co66] 31 (0, 0)) (by (with_reducible repeat (first | refine blk_drewN ?_ _ | refine blk_drew ?_ | refine blk_alloc ?_ _)); exact BK217.out) hb)
                        have n13_ := Aside0.mk (below_step (by repeat (first | (with_reducible first | exact HB.out | apply below_alloc | apply pw_below_drewN | apply below_drew1 | refine below_set ?_ GE182.out | refine below_set ?_ GE183.out | refine below_set ?_ GE208.out | refine below_set ?_ GE217.out) | exact HB.out)) hb)
                        clear HO188
                        clear HO195
                        clear HO198
                        clear HO205
                        clear HO214
                        clear HO225
                        clear HO233
                        clear HO241
                        clear BK182
                        clear BK183
                        clear BK208
                        clear BK217
                        clear HB
                        have HO188 := n0_
                        have HO195 := n1_
                        have HO198 := n2_
                        have HO205 := n3_
                        have HO214 := n4_
                        have HO225 := n5_
                        have HO233 := n6_
                        have HO241 := n7_
                        have HO247 := n8_
                        have BK182 := n9_
                        have BK183 := n10_
                        have BK208 := n11_
                        have BK217 := n12_
                        have HB := n13_
                        clear n0_ n1_ n2_ n3_ n4_ n5_ n6_ n7_ n8_ n9_ n10_ n11_ n12_ n13_
                        (try clear hb)
                        (try clear hb2)
                        (try clear hk)
                        (try clear hi)
                        (try clear ho0)
                        obtain ⟨Ao82, co82, eo82⟩ := Kd.V_slice HO241.out
                        (first | subst eo82 | (injection eo82 with f1_ f2_ f3_; have f4_ := f1_.symm; have f5_ := f3_.symm; clear f1_ f2_ f3_; subst f4_; subst f5_))
                        obtain ⟨Ao83, co83, eo83⟩ := Kd.V_slice HO247.out
                        (first | subst eo83 | (injection eo83 with f1_ f2_ f3_; have f4_ := f1_.symm; have f5_ := f3_.symm; clear f1_ f2_ f3_; subst f4_; subst f5_))
                        refine hK.out _ _ ⟨(blk_cell BK208.out 0).trans rfl, (blk_cell BK208.out 1).trans rfl, (blk_cell BK208.out 2).trans rfl, (blk_cell BK208.out 3).trans rfl, (blk_cell BK217.out 0).trans rfl, (blk_cell BK217.out 1).trans rfl, (blk_cell BK217.out 2).trans rfl, (blk_cell BK217.out 3).trans rfl, (blk_cell BK182.out 0).trans rfl, (blk_cell BK182.out 1).trans rfl, (blk_cell BK182.out 2).trans rfl, (blk_cell BK182.out 3).trans rfl, (blk_cell BK183.out 0).trans rfl, (blk_cell BK183.out 1).trans rfl, (blk_cell BK183.out 2).trans rfl, (blk_cell BK183.out 3).trans rfl⟩ (fun hHeld => ?_)
                        clear hK K
                        refine norm_ (a' := ?_) ?_ ?_
                        rotate_left
                        · show Act.put _ (some 104) _ = _
                          simp only [Act.put, List.setIfInBounds_toArray, List.set_cons_zero, List.set_cons_succ, i64_w, i32_w]
                          rfl
                        refine one_ (i := 43) (N := some 105) #[true, true, true, true, true, true, true, true, true, true, true, true, true, true, true, true, true, true, true, true, true, true, true, true, true, true, true, true, true, true, true, true, true, true, true, true, true, true, true, true, true, true, true, true, false, false, false] rfl rfl (one_of HT_.out (by kernel_rfl)) (by decide) (fun K hK => ?_)
                        refine goes_ Try.func17 (by kernel_rfl) rfl #[.agg #[.int .i64 t236, .int .u64 t237, .int .u64 t238, .slice Ao82 t239.length co82], .agg #[.int .i64 t242, .int .u64 t243, .int .u64 t244, .slice Ao83 t245.length co83]] (by rfl) rfl rfl (by (try simp only [List.map_toArray, List.map_cons, List.map_nil]); first | done | rfl | (simp only [List.length_drop, List.length_take]; rfl)) ?_
                        with_reducible refine (tikref13_SameRecord.calls t236 t237 t238 _ _ t239 t242 t243 t244 _ _ t245 t248 _ ?side1 ?side2 ?side3 ?side4 A46.out).mono ?_
                        (case side1 => repeat (first | exact (Kd.V_reads' HO241.out).2.2 | (with_reducible refine Kd.C_alloc ?_ _) | (with_reducible refine Kd.C_drewN ?_ _) | (with_reducible refine Kd.C_drew ?_)))
                        (case side2 => exact (Kd.V_reads' HO241.out).2.1)
                        (case side3 => repeat (first | exact (Kd.V_reads' HO247.out).2.2 | (with_reducible refine Kd.C_alloc ?_ _) | (with_reducible refine Kd.C_drewN ?_ _) | (with_reducible refine Kd.C_drew ?_)))
                        (case side4 => exact (Kd.V_reads' HO247.out).2.1)
                        rintro e w84 ⟨rfl, hb⟩
                        refine ⟨_, rfl, ?_⟩
                        have n0_ := Aside0.mk (Kd.R_below (by (with_reducible repeat (first | apply Kd.R_alloc | apply Kd.R_drewN | apply Kd.R_drew)); exact HO188.out) hb)
                        have n1_ := Aside0.mk (Kd.V_below (by (with_reducible repeat (first | apply Kd.V_alloc | apply Kd.V_drewN | apply Kd.V_drew)); exact HO195.out) hb)
                        have n2_ := Aside0.mk (Kd.R_below (by (with_reducible repeat (first | apply Kd.R_alloc | apply Kd.R_drewN | apply Kd.R_drew)); exact HO198.out) hb)
                        have n3_ := Aside0.mk (Kd.R_below (by (with_reducible repeat (first | apply Kd.R_alloc | apply Kd.R_drewN | apply Kd.R_drew)); exact HO205.out) hb)
                        have n4_ := Aside0.mk (Kd.R_below (by (with_reducible repeat (first | apply Kd.R_alloc | apply Kd.R_drewN | apply Kd.R_drew)); exact HO214.out) hb)
                        have n5_ := Aside0.mk (Kd.V_below (by (with_reducible repeat (first | apply Kd.V_alloc | apply Kd.V_drewN | apply Kd.V_drew)); exact HO225.out) hb)
                        have n6_ := Aside0.mk (Kd.V_below (by (with_reducible repeat (first | apply Kd.V_alloc | apply Kd.V_drewN | apply Kd.V_drew)); exact HO233.out) hb)
                        have n7_ := Aside0.mk (Kd.V_below (by (with_reducible repeat (first | apply Kd.V_alloc | apply Kd.V_drewN | apply Kd.V_drew)); exact HO241.out) hb)
                        have n8_ := Aside0.mk (Kd.V_below (by (with_reducible repeat (first | apply Kd.V_alloc | apply Kd.V_drewN | apply Kd.V_drew)); exact HO247.out) hb)
                        have n9_ := Aside0.mk (blk_below (g := gb182) (o := .cells #[.int .i64 a0_0, .int .u64 a0_1, .int .u64 a0_2, .slice A0_3 l0_3.length c0_3] 25 (0, 0)) (by (with_reducible repeat (first | refine blk_drewN ?_ _ | refine blk_drew ?_ | refine blk_alloc ?_ _)); exact BK182.out) hb)
                        have n10_ := Aside0.mk (blk_below (g := gb183) (o := .cells #[.int .i64 a1_0, .int .u64 a1_1, .int .u64 a1_2, .slice A1_3 l1_3.length c1_3] 25 (0, 0)) (by (with_reducible repeat (first | refine blk_drewN ?_ _ | refine blk_drew ?_ | refine blk_alloc ?_ _)); exact BK183.out) hb)
                        have n11_ := Aside0.mk (blk_below (g := gb208) (o := .cells #[.int .i64 t200, .int .u64 t201, .int .u64 t202, .slice Ao59 t203.length co59] 25 (0, 0)) (by (with_reducible repeat (first | refine blk_drewN ?_ _ | refine blk_drew ?_ | refine blk_alloc ?_ _)); exact BK208.out) hb)
                        have n12_ := Aside0.mk (blk_below (g := gb217) (o := .cells #[.int .i64 t209, .int .u64 t210, .int .u64 t211, .slice Ao66 t212.length co66] 31 (0, 0)) (by (with_reducible repeat (first | refine blk_drewN ?_ _ | refine blk_drew ?_ | refine blk_alloc ?_ _)); exact BK217.out) hb)
                        have n13_ := Aside0.mk (below_step (by repeat (first | (with_reducible first | exact HB.out | apply below_alloc | apply pw_below_drewN | apply below_drew1 | refine below_set ?_ GE182.out | refine below_set ?_ GE183.out | refine below_set ?_ GE208.out | refine below_set ?_ GE217.out) | exact HB.out)) hb)
                        clear HO188
                        clear HO195
                        clear HO198
                        clear HO205
                        clear HO214
                        clear HO225
                        clear HO233
                        clear HO241
                        clear HO247
                        clear BK182
                        clear BK183
                        clear BK208
                        clear BK217
                        clear HB
                        have HO188 := n0_
                        have HO195 := n1_
                        have HO198 := n2_
                        have HO205 := n3_
                        have HO214 := n4_
                        have HO225 := n5_
                        have HO233 := n6_
                        have HO241 := n7_
                        have HO247 := n8_
                        have BK182 := n9_
                        have BK183 := n10_
                        have BK208 := n11_
                        have BK217 := n12_
                        have HB := n13_
                        clear n0_ n1_ n2_ n3_ n4_ n5_ n6_ n7_ n8_ n9_ n10_ n11_ n12_ n13_
                        (try clear hb)
                        (try clear hb2)
                        (try clear hk)
                        (try clear hi)
                        refine hK.out _ _ ⟨(blk_cell BK208.out 0).trans rfl, (blk_cell BK208.out 1).trans rfl, (blk_cell BK208.out 2).trans rfl, (blk_cell BK208.out 3).trans rfl, (blk_cell BK217.out 0).trans rfl, (blk_cell BK217.out 1).trans rfl, (blk_cell BK217.out 2).trans rfl, (blk_cell BK217.out 3).trans rfl, (blk_cell BK182.out 0).trans rfl, (blk_cell BK182.out 1).trans rfl, (blk_cell BK182.out 2).trans rfl, (blk_cell BK182.out 3).trans rfl, (blk_cell BK183.out 0).trans rfl, (blk_cell BK183.out 1).trans rfl, (blk_cell BK183.out 2).trans rfl, (blk_cell BK183.out 3).trans rfl⟩ (fun hHeld => ?_)
                        clear hK K
                        refine norm_ (a' := ?_) ?_ ?_
                        rotate_left
                        · show Act.put _ (some 105) _ = _
                          simp only [Act.put, List.setIfInBounds_toArray, List.set_cons_zero, List.set_cons_succ, i64_w, i32_w]
                          rfl
                        refine pure_ (i := 44) (N := some 106) (v := ?_) (a' := ?_) #[true, true, true, true, true, true, true, true, true, true, true, true, true, true, true, true, true, true, true, true, true, true, true, true, true, true, true, true, true, true, true, true, true, true, true, true, true, true, true, true, true, true, true, true, true, false, false] rfl rfl (any_of HT_.out (by kernel_rfl)) (fun _ _ _ h => h) (Or.inl ⟨by rfl, ?_⟩) ?_ ?_
                        rotate_left
                        · intro w'
                          go_simp
                          with_reducible rfl
                        rotate_left
                        · simp only [Act.put, List.setIfInBounds_toArray, List.set_cons_zero, List.set_cons_succ, i64_w, i32_w]
                          rfl
                        refine pure_ (i := 45) (N := some 107) (v := ?_) (a' := ?_) #[true, true, true, true, true, true, true, true, true, true, true, true, true, true, true, true, true, true, true, true, true, true, true, true, true, true, true, true, true, true, true, true, true, true, true, true, true, true, true, true, true, true, true, true, true, true, false] rfl rfl (any_of HT_.out (by kernel_rfl)) (fun _ _ _ h => h) (Or.inl ⟨by rfl, ?_⟩) ?_ ?_
                        rotate_left
                        · intro w'
                          go_simp
                          with_reducible rfl
                        rotate_left
                        · simp only [Act.put, List.setIfInBounds_toArray, List.set_cons_zero, List.set_cons_succ, i64_w, i32_w]
                          rfl
                        refine pure_ (i := 46) (N := some 8) (v := ?_) (a' := ?_) #[true, true, true, true, true, true, true, true, true, true, true, true, true, true, true, true, true, true, true, true, true, true, true, true, true, true, true, true, true, true, true, true, true, true, true, true, true, true, true, true, true, true, true, true, true, true, true] rfl rfl (any_of HT_.out (by kernel_rfl)) (fun _ _ _ h => h) (Or.inl ⟨by rfl, ?_⟩) ?_ ?_
                        rotate_left
                        · intro w'
                          go_simp
                          with_reducible rfl
                        rotate_left
                        · simp only [Act.put, List.setIfInBounds_toArray, List.set_cons_zero, List.set_cons_succ, i64_w, i32_w]
                          rfl
                        refine done_ (done_of HT_.out (by kernel_rfl)) ?_
                        try go_wp2
                        go_ret
                        exact ⟨by first | rfl | (simp [errW_none, errW_some] <;> rfl) | (simp [*, errW_none, errW_some] <;> rfl), by repeat (first | (with_reducible first | exact HB.out | apply below_alloc | apply pw_below_drewN | apply below_drew1 | refine below_set ?_ GE182.out | refine below_set ?_ GE183.out | refine below_set ?_ GE208.out | refine below_set ?_ GE217.out) | exact HB.out)⟩
                      · rw [if_neg c42] at H
                        have c42b0 : (t227 == t234) = false := by simpa using c42
                        (try (have c42b1 : decide (t227 = t234) = false := by simpa using c42))
                        (try (have c42b2 : (t227 == t234) = false := by simpa using c42))
                        (try (have c42b3 : ¬ (t227 = t234) := by simpa using c42))
                        clear c42
                        exact absurd ((Option.some.inj H).trans hr_.out) (by simp)
                    · rw [if_neg c38] at H
                      have c38b0 : (t207 == t216) = false := beq_eq_false_iff_ne.mpr c38
                      have c38b1 : (t207 != t216) = true := bne_iff_ne.mpr c38
                      exact absurd ((Option.some.inj H).trans hr_.out) (by simp)
                  · rw [if_neg c37] at H
                    have c37b0 : (t206 == t215) = false := beq_eq_false_iff_ne.mpr c37
                    have c37b1 : (t206 != t215) = true := bne_iff_ne.mpr c37
                    exact absurd ((Option.some.inj H).trans hr_.out) (by simp)
                · replace c36 := Bool.eq_false_iff.mpr c36
                  subst c36
                  have H1 : (some false) = some r := by rw [if_neg (show ¬ (false = true) by decide)] at H; exact H
                  clear H
                  have H := H1
                  clear H1
                  exact absurd ((Option.some.inj H).trans hr_.out) (by simp)
              · rw [if_neg c33] at H
                have c33b0 : (t189 == t199) = false := beq_eq_false_iff_ne.mpr c33
                have c33b1 : (t189 != t199) = true := bne_iff_ne.mpr c33
                exact absurd ((Option.some.inj H).trans hr_.out) (by simp)
            · replace c32 := Bool.eq_false_iff.mpr c32
              subst c32
              have H1 : (some false) = some r := by rw [if_neg (show ¬ (false = true) by decide)] at H; exact H
              clear H
              have H := H1
              clear H1
              exact absurd ((Option.some.inj H).trans hr_.out) (by simp)
          · replace c30 := Bool.eq_false_iff.mpr c30
            subst c30
            have H1 : (some false) = some r := by rw [if_neg (show ¬ (false = true) by decide)] at H; exact H
            clear H
            have H := H1
            clear H1
            exact absurd ((Option.some.inj H).trans hr_.out) (by simp)
  · replace c6 := Bool.eq_false_iff.mpr c6
    subst c6
    have H1 : (some false) = some r := by rw [if_neg (show ¬ (false = true) by decide)] at H; exact H
    clear H
    have H := H1
    clear H1
    exact absurd ((Option.some.inj H).trans hr_.out) (by simp)
end Go.Proofs.Ytdklanenmihpdaa.PL
namespace Go.Proofs.Ytdklanenmihpdaa.Hand
open Go.RowKit Go.Proofs.YtdklanenmihpdaaW.PrintWords Go.Proofs.YtdklanenmihpdaaW.PrintLast Go.Proofs.YtdklanenmihpdaaW.PrintMore Go.Proofs.Ytdklanenmihpdaa.PA Go.Proofs.Ytdklanenmihpdaa.PL
theorem nums_f (k : Nat) (hk : 100 ≤ k) (a b c : Int) (ha : 0 ≤ a ∧ a < 18446744073709551616) (hb : 0 ≤ b ∧ b < 18446744073709551616) (hc : 0 ≤ c ∧ c < 18446744073709551616) :
    tikref13_nums.f k [a, b, c] = some (varL 9 a ++ (varL 9 b ++ varL 9 c)) := by
  obtain ⟨k, rfl⟩ : ∃ m, k = m + 1 + 1 + 1 + 1 := ⟨k - 4, by omega⟩
  have l1 := varL_len a ha.1 ha.2
  have l2 := varL_len b hb.1 hb.2
  have l3 := varL_len c hc.1 hc.2
  have w : ∀ i : Int, 0 ≤ i → i < 100 → wrap64 (i + 1) = i + 1 := fun i _ _ => IntWalk.wrap64_in _ (by omega)
  have r0 : rd [a, b, c] 0 = a := rfl
  have r1 : rd [a, b, c] (0 + 1) = b := rfl
  have r2 : rd [a, b, c] (0 + 1 + 1) = c := rfl
  unfold tikref13_nums.f
  rw [tikref13_nums.l0]
  refine (if_pos (by simp)).trans ((if_pos (by omega)).trans ?_)
  rw [r0, refVar_any _ (by omega) a ha.1 ha.2, Option.bind_some, List.nil_append]
  refine (if_pos (by simp; omega)).trans ?_
  rw [w 0 (by omega) (by omega), tikref13_nums.l0]
  refine (if_pos (by simp)).trans ((if_pos (by omega)).trans ?_)
  rw [r1, refVar_any _ (by omega) b hb.1 hb.2, Option.bind_some]
  refine (if_pos (by omega)).trans ?_
  rw [w (0 + 1) (by omega) (by omega), tikref13_nums.l0]
  refine (if_pos (by simp)).trans ((if_pos (by omega)).trans ?_)
  rw [r2, refVar_any _ (by omega) c hc.1 hc.2, Option.bind_some]
  refine (if_pos (by simp; omega)).trans ?_
  rw [w (0 + 1 + 1) (by omega) (by omega), tikref13_nums.l0]
  refine (if_neg (by simp)).trans ?_
  rw [List.append_assoc]
theorem refenc_f (k : Nat) (a0 a1 a2 : Int) (l : List Int) (h1 : 0 ≤ a1 ∧ a1 < 18446744073709551616) (h2 : 0 ≤ a2 ∧ a2 < 18446744073709551616) (hb : Bytes255 l) (hl : l.length ≤ 3000) (hk : 40000 ≤ k) :
    PL.tikref13_EncodeRecord.f k a0 a1 a2 l = some (if mayL a0 a1 a2 l.length then (encL a0 a1 a2 l, 0) else ([], 1)) := by
  unfold PL.tikref13_EncodeRecord.f
  rw [rmay_f, Option.bind_some]
  by_cases hm : mayL a0 a1 a2 l.length
  case neg => rw [decide_eq_false hm, if_neg hm]; exact if_neg (by simp)
  rw [decide_eq_true hm, if_pos hm]
  refine (if_pos rfl).trans ?_
  have hM : MayR a0 a1 a2 l := ⟨hm, h1.1, h2.1⟩
  have hw : IntKind.u64.wrap (l.length : Int) = (l.length : Int) := IntWalk.u64_in _ (by omega)
  have h0 : a0 % 256 = a0 := by rcases hm.1 with h | h <;> omega
  have hs := enc_small hM hl
  have hbb := body_bytes hM hb
  have l1 := varL_len a1 h1.1 h1.2
  have l2 := varL_len a2 h2.1 h2.2
  have l3 := varL_len (l.length : Int) (by omega) (by omega)
  have e : ([a0] ++ (varL 9 a1 ++ (varL 9 a2 ++ varL 9 (l.length : Int)))) ++ l = bodyL a0 a1 a2 l := by simp [bodyL]
  have hc := refCrc_any k (bodyL a0 a1 a2 l) (by omega) hbb (by omega)
  have hf : ∀ c, tikref2_Four.f c = some (fourL c) := fun _ => rfl
  rw [Option.bind_some, hw, nums_f k (by omega) a1 a2 _ h1 h2 (by omega), Option.bind_some, h0]
  refine (if_pos (by simp; omega)).trans ?_
  rw [Option.bind_some]
  refine (if_pos (by simp; omega)).trans ?_
  rw [Option.bind_some, Option.bind_some, e, hc, Option.bind_some, hf, Option.bind_some]
  refine (if_pos (by simp [fourL])).trans ?_
  rw [Option.bind_some]
  refine (if_pos (by simp [fourL]; omega)).trans ?_
  rfl
theorem rsame_f {k s t k' s' t' : Int} {b b' : List Int} (ha : Bytes255 b) (hb : Bytes255 b') : tikref13_SameRecord.f k s t b k' s' t' b' = some (decide (k = k' ∧ s = s' ∧ t = t' ∧ b = b')) := by
  unfold tikref13_SameRecord.f
  rw [bytes_f ha hb]
  by_cases h1 : k = k' <;> by_cases h2 : s = s' <;> by_cases h3 : t = t' <;> simp [h1, h2, h3]
theorem dec_any (l : List Int) (a : Int) (hb : Bytes255 l) (hl : l.length ≤ 3000) : ∃ k s t b e x, rec_Decode.f l a = some (k, s, t, b, e, x) ∧ tikref13_DecodeRecord.f l a = some (k, s, t, b, e, x) ∧ Bytes255 b := by
  have hc : l.all byteB = true ∧ l.length < 140737488355328 := ⟨List.all_eq_true.2 (fun x hx => byteB_iff.2 (hb x hx)), by omega⟩
  have hd : tikref13_DecodeRecord.f l a = rec_Decode.f l a := rfl
  rw [hd]
  unfold rec_Decode.f
  rw [if_pos hc]
  by_cases h : a < 0 ∨ (l.length : Int) < a
  · rw [if_pos h]
    exact ⟨_, _, _, _, _, _, rfl, rfl, by simp [Bytes255]⟩
  rw [if_neg h]
  cases hv : decV l a with
  | error x => exact ⟨_, _, _, _, _, _, rfl, rfl, by simp [Bytes255]⟩
  | ok r =>
    obtain ⟨k, s, t, b, e⟩ := r
    exact ⟨_, _, _, _, _, _, rfl, rfl, (dec_inv hb (by omega) hv).2.2.2.2⟩
theorem recTells_any (k : Nat) (hk : 40000 ≤ k) (a0 a1 a2 b0 b1 b2 a3 : Int) (l m n : List Int) (h1 : 0 ≤ a1 ∧ a1 < 18446744073709551616) (h2 : 0 ≤ a2 ∧ a2 < 18446744073709551616) (hl : Bytes255 l) (hm : Bytes255 m) (hn : Bytes255 n) :
    tiklaw15_RecTells.f (k + 1) a0 a1 a2 l b0 b1 b2 m n a3 = some true := by
  have J0 : tiklaw15_RecTells.j0 (k + 1) n a3 true a0 a1 a2 l b0 b1 b2 m = some true := by
    rw [tiklaw15_RecTells.j0]; refine (if_pos rfl).trans ?_; rw [rfirst_f _ hk]; rfl
  unfold tiklaw15_RecTells.f
  rw [rfirst_f _ (by omega), Option.bind_some]
  refine (if_pos rfl).trans ?_
  by_cases c1 : (l.length : Int) > 3000
  · exact (if_pos c1).trans J0
  refine (if_neg c1).trans ?_
  by_cases c2 : (m.length : Int) > 3000
  · exact (if_pos c2).trans J0
  refine (if_neg c2).trans ?_
  by_cases c3 : (n.length : Int) > 3000
  · rw [decide_eq_true c3]; exact J0
  rw [decide_eq_false c3, tiklaw15_RecTells.j0]
  refine (if_neg (by simp)).trans ?_
  have hp : ∀ a b c d, PL.tiklaw15_Plain.f a b c d = some (a, b, c, d) := fun _ _ _ _ => rfl
  have he := enc_f k a0 a1 a2 l h1 h2 hl (by omega) hk
  have hr := refenc_f k a0 a1 a2 l h1 h2 hl (by omega) hk
  obtain ⟨x, hx, hxb⟩ : ∃ x : List Int × Int, (if mayL a0 a1 a2 l.length then (encL a0 a1 a2 l, (0 : Int)) else ([], 1)) = x ∧ Bytes255 x.1 := by
    refine ⟨_, rfl, ?_⟩
    by_cases h : mayL a0 a1 a2 l.length
    · rw [if_pos h]; exact enc_bytes ⟨h, h1.1, h2.1⟩ hl
    · rw [if_neg h]; simp [Bytes255]
  rw [hx] at he hr
  obtain ⟨x1, x2⟩ := x
  obtain ⟨dk, ds, dt, db, de, dx, d1, d2, d3⟩ := dec_any n a3 hn (by omega)
  rw [he, Option.bind_some, hp, Option.bind_some, hr, Option.bind_some, d1, Option.bind_some, d2, Option.bind_some, rfirst_f k hk, Option.bind_some]
  refine (if_pos rfl).trans ?_
  dsimp only
  rw [bytes_f hxb hxb, Option.bind_some]
  refine (if_pos (by simp)).trans ((if_pos rfl).trans ?_)
  rw [hp, Option.bind_some]
  dsimp only
  rw [rsame_f d3 d3, Option.bind_some]
  refine (if_pos (by simp)).trans ((if_pos rfl).trans ((if_pos rfl).trans ?_))
  rw [may_f, Option.bind_some, hp, Option.bind_some]
  dsimp only
  rw [rmay_f, Option.bind_some]
  refine (if_pos (by simp)).trans ?_
  rw [same_f hl hm, Option.bind_some, Option.bind_some, Option.bind_some]
  dsimp only
  rw [rsame_f hl hm, Option.bind_some]
  simp
end Go.Proofs.Ytdklanenmihpdaa.Hand
namespace Go.Proofs.Ytdklanenmihpdaa.RowRecTells
open Go.ChangeShapes Go.WideShapes Go.ChangeAt Go.RowKit
open Go.ChangeMaps (open_string shut_string)
open Go.Proofs.YtdklanenmihpdaaW.PrintWords Go.Proofs.Ytdklanenmihpdaa.Opens
open Go.Proofs.Ytdklanenmihpdaa.Hand
set_option linter.unusedVariables false
set_option linter.unusedSimpArgs false
theorem ownK : ownKnob Try.prog.godebug = none := by kernel_rfl
theorem laidOut : laidOutB Try.prog = true := by kernel_rfl
set_option maxRecDepth 100000 in
theorem lifted (os : Os) (started : os.Started) (H : Type) (enc : TypeId × Value → H) :
    ReturnsInHanded {} Try.checked os 3 .any (Rows.recTellsSpec.pre6 enc Try.prog Try.f3 Rows.recTellsRow.domain false) (Rows.recTellsSpec.post enc Try.prog Try.f3 false true false false) := by
  refine returnsInHanded_of_change_sized (C := Try.checked) ownK started (by kernel_rfl) Try.func3
    (ChangeSpec.witness6 (enc := enc) (C := Try.checked) false ⟨#[], #[.agg #[.int .i64 0, .int .u64 0, .int .u64 0, .slice none 0 0], .agg #[.int .i64 0, .int .u64 0, .int .u64 0, .slice none 0 0], .slice none 0 0, .int .i64 0], []⟩ 8 (by kernel_rfl) (by kernel_rfl) (by kernel_rfl) (by kernel_rfl)) ?_
  intro W base args ds gs before hval0 hW hcnd hsz0 _
  have hsz : (DataW.weightsEach Try.prog (Try.f3.params.toList ++ Rows.recTellsSpec.plain.varTypes Try.prog) (ds ++ gs)).all (· ≤ reachBytes) = true := hsz0
  have hval : ∀ (j : Nat) t v, Try.f3.params[j]? = some t → args[j]? = some v → Value.okWide Try.prog W .any base t v := hval0
  have hW' := hW
  obtain ⟨p, q, hA0, hV, rfl, hfz, hnd⟩ := hW
  have hA : DataW.TrodAll enc Try.prog W 0 (fun _ => true) true Try.f3.params.toList args.toList ds p := hA0
  rw [Try.params3] at hA hval hsz
  obtain ⟨v0, vs0, d0, ds0, p0, q0, hargs, rfl, rfl, h0, r0⟩ := trodAll_cons hA
  obtain ⟨v1, vs1, d1, ds1, p1, q1, rfl, rfl, rfl, h1, r1⟩ := trodAll_cons r0
  obtain ⟨v2, vs2, d2, ds2, p2, q2, rfl, rfl, rfl, h2, r2⟩ := trodAll_cons r1
  obtain ⟨v3, vs3, d3, ds3, p3, q3, rfl, rfl, rfl, h3, r3⟩ := trodAll_cons r2
  obtain ⟨rfl, rfl, rfl⟩ := trodAll_nil r3
  obtain rfl : args = #[v0, v1, v2, v3] := by cases args; simp_all
  obtain ⟨rfl, rfl⟩ := trodVars_none hV
  have k0 := h0
  have lt0 : ∀ x ∈ p0, x.block < W.heap.size := by obtain ⟨m, hm⟩ := k0; exact DataW.trod_lt m _ _ _ hm
  obtain ⟨⟨c0_0, ⟨c0_1, ⟨c0_2, c0_3⟩⟩⟩, ⟨_, _, gc0_2, fc0_0, ⟨_, _, gc0_1, fc0_1, ⟨_, _, gc0_0, fc0_2, fc0_3⟩⟩⟩, u0⟩ := open_arg (o_struct Try.underlying25 (by kernel_rfl) (f_cons rfl (by kernel_rfl) (o_int Try.underlying3) (f_cons rfl (by kernel_rfl) (o_int Try.underlying22) (f_cons rfl (by kernel_rfl) (o_int Try.underlying22) (f_last rfl (by kernel_rfl) (o_slice Try.underlying23 (by kernel_rfl) (o_int Try.underlying5))))))) h0
  obtain ⟨A0_3, s0_3, fc0_3, hc0_3, hC0_3⟩ := fc0_3
  have e0 : v0.cells.toList = _ := gc0_2
  simp only [Kd.int, Kd.bool, Kd.string, kFloat, Kd.scalar] at fc0_0 fc0_1 fc0_2 fc0_3
  simp only [gc0_0, gc0_1, fc0_0, fc0_1, fc0_2, fc0_3, List.cons_append, List.nil_append] at e0
  have e0' := agg_of Try.underlying25 (hval 0 25 v0 rfl rfl) e0
  subst e0'
  have k1 := h1
  have lt1 : ∀ x ∈ p1, x.block < W.heap.size := by obtain ⟨m, hm⟩ := k1; exact DataW.trod_lt m _ _ _ hm
  obtain ⟨⟨c1_0, ⟨c1_1, ⟨c1_2, c1_3⟩⟩⟩, ⟨_, _, gc1_2, fc1_0, ⟨_, _, gc1_1, fc1_1, ⟨_, _, gc1_0, fc1_2, fc1_3⟩⟩⟩, u1⟩ := open_arg (o_struct Try.underlying25 (by kernel_rfl) (f_cons rfl (by kernel_rfl) (o_int Try.underlying3) (f_cons rfl (by kernel_rfl) (o_int Try.underlying22) (f_cons rfl (by kernel_rfl) (o_int Try.underlying22) (f_last rfl (by kernel_rfl) (o_slice Try.underlying23 (by kernel_rfl) (o_int Try.underlying5))))))) h1
  obtain ⟨A1_3, s1_3, fc1_3, hc1_3, hC1_3⟩ := fc1_3
  have e1 : v1.cells.toList = _ := gc1_2
  simp only [Kd.int, Kd.bool, Kd.string, kFloat, Kd.scalar] at fc1_0 fc1_1 fc1_2 fc1_3
  simp only [gc1_0, gc1_1, fc1_0, fc1_1, fc1_2, fc1_3, List.cons_append, List.nil_append] at e1
  have e1' := agg_of Try.underlying25 (hval 1 25 v1 rfl rfl) e1
  subst e1'
  have k2 := h2
  have lt2 : ∀ x ∈ p2, x.block < W.heap.size := by obtain ⟨m, hm⟩ := k2; exact DataW.trod_lt m _ _ _ hm
  obtain ⟨l2, ⟨A2, c2, e2, hc2, hC2⟩, q2⟩ := open_arg (o_slice Try.underlying23 (by kernel_rfl) (o_int Try.underlying5)) h2
  obtain ⟨_, _, _, z2⟩ := okWide_slice Try.underlying23 (hval 2 23 v2 rfl rfl)
  obtain rfl : v2 = .slice A2 l2.length c2 := by subst z2; simpa [Value.cells] using e2
  have y2 := sized_any hsz (j := 2) (t := 23) rfl rfl Try.underlying23 h2
  obtain ⟨a3, rfl, rfl, rfl, w3⟩ := open_int Try.underlying3 (hval 3 3 v3 rfl rfl) h3
  clear hA0 hval0
  refine (PL.tiklaw15_RecTells.calls 40001 c0_0 c0_1 c0_2 A0_3 s0_3 c0_3 c1_0 c1_1 c1_2 A1_3 s1_3 c1_3 A2 c2 l2 a3 true W hC0_3 hc0_3 hC1_3 hc1_3 hC2 hc2 ⟨rfl⟩ (recTells_any 40000 (Nat.le_refl _) c0_0 c0_1 c0_2 c1_0 c1_1 c1_2 a3 c0_3 c1_3 l2 (by have := bounds_u64 (show (Lit.int .u64 c0_1).wf = true from u0.2.1); omega) (by have := bounds_u64 (show (Lit.int .u64 c0_2).wf = true from u0.2.2.1); omega) (fun x hx => by have := bounds_u8 (u0.2.2.2.2 x hx); omega) (fun x hx => by have := bounds_u8 (u1.2.2.2.2 x hx); omega) (fun x hx => by have := bounds_u8 (q2.2 x hx); omega))).mono fun e W' ⟨he, bel⟩ => ?_
  subst he
  exact ⟨_, rfl, _, _, _, [], _, [], hW', trodAll_mk1 (shut_bool Try.underlying4 _), (trodAll_cons_mk (Below.trod laidOut (by kernel_rfl) (of_decide_eq_true (by kernel_rfl)) k0 bel lt0) (trodAll_cons_mk (Below.trod laidOut (by kernel_rfl) (of_decide_eq_true (by kernel_rfl)) k1 bel lt1) (trodAll_cons_mk (Below.trod laidOut (by kernel_rfl) (of_decide_eq_true (by kernel_rfl)) k2 bel lt2) (trodAll_cons_mk (shut_int Try.underlying3 w3) trodAll_mk0)))), rfl, bel.frame _, fun h => by cases h⟩
theorem over : Rows.recTellsRow.holds Try.pinned (OpenSpec.ofChange Rows.recTellsSpec) :=
  OpenClaim.holds_of_wide 3 Try.f3 rfl rfl rfl rfl rfl rfl rfl ⟨rfl, rfl, rfl, rfl, rfl⟩ rfl rfl rfl rfl rfl (by kernel_rfl) Try.func3 (by kernel_rfl)
    (of_decide_eq_true (by kernel_rfl)) (by unfold Func.isWrapper; first | (rw [if_pos (by decide +kernel)]; kernel_rfl) | (rw [if_neg (by decide +kernel)]; exact ⟨rfl, rfl⟩))
    (fun os started H enc _ => lifted os started H enc)
#print axioms over
end Go.Proofs.Ytdklanenmihpdaa.RowRecTells
namespace Go.Proofs.Ytdklanenmihpdaa
theorem recTells_holds : Rows.RecTellsSaid := RowRecTells.over
end Go.Proofs.Ytdklanenmihpdaa
