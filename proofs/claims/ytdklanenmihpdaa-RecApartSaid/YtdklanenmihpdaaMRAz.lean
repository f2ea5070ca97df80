/- Texts of this claim, put together. -/
import Derived.Test.YtdklanenmihpdaaMRAa
import Derived.Test.YtdklanenmihpdaaMRAb
import Derived.Test.YtdklanenmihpdaaRows
import Derived.WalkKit
import Derived.ProofKit
import Derived.OpenShut
import Derived.ShutString
import Derived.ChangeOld
import Derived.Below
import Derived.SizedLaws
set_option linter.unusedVariables false
set_option linter.unusedSimpArgs false
namespace Go.Proofs.Ytdklanenmihpdaa.PL
open Go.RowKit Go.Proofs.YtdklanenmihpdaaW.PrintWords Go.Proofs.YtdklanenmihpdaaW.PrintLast Go.Proofs.YtdklanenmihpdaaW.PrintMore
attribute [local go_sem] max2_int min2_int max_two min_two max_three min_three max_four min_four
open Go.Proofs.Ytdklanenmihpdaa.Hand
open Go.Proofs.Ytdklanenmihpdaa.PA
set_option linter.unusedVariables false
set_option linter.unusedSimpArgs false
mutual
def tiklaw15_RecApart.j0 : Nat → Bool → Int → Int → Int → List Int → Int → Int → Int → List Int → Option (Bool)
  | 0, _, _, _, _, _, _, _, _, _ => none
  | k + 1, x24, x317000, x317001, x317002, x317003, x318000, x318001, x318002, x318003 => if x24 = true then ((tiklaw15_first.f k).bind fun t319 => (some t319)) else ((rec_Encode.f k x317000 x317001 x317002 x317003).bind fun bt320 => ((rec_Encode.f k x318000 x318001 x318002 x318003).bind fun bt324 => ((rec_May.f x317000 x317001 x317002 x317003).bind fun t328 => (if ((bt320.2 == 0) != t328) = true then (tiklaw15_RecApart.j1 k bt320.1 bt320.2 bt324.1 bt324.2 true x317000 x317001 x317002 x317003 x318000 x318001 x318002 x318003) else (if bt320.2 = 0 then (tiklaw15_RecApart.j1 k bt320.1 bt320.2 bt324.1 bt324.2 false x317000 x317001 x317002 x317003 x318000 x318001 x318002 x318003) else (if bt320.2 = 1 then (tiklaw15_RecApart.j1 k bt320.1 bt320.2 bt324.1 bt324.2 ((bt320.1.length : Int) != 0) x317000 x317001 x317002 x317003 x318000 x318001 x318002 x318003) else (tiklaw15_RecApart.j1 k bt320.1 bt320.2 bt324.1 bt324.2 true x317000 x317001 x317002 x317003 x318000 x318001 x318002 x318003)))))))
def tiklaw15_RecApart.j1 : Nat → List Int → Int → List Int → Int → Bool → Int → Int → Int → List Int → Int → Int → Int → List Int → Option (Bool)
  | 0, _, _, _, _, _, _, _, _, _, _, _, _, _ => none
  | k + 1, x5, x6, x7, x8, x53, x317000, x317001, x317002, x317003, x318000, x318001, x318002, x318003 => if x53 = true then (some false) else (if x6 = 0 then (tiklaw15_RecApart.j2 k x5 x7 (x8 != 0) x317000 x317001 x317002 x317003 x318000 x318001 x318002 x318003) else (tiklaw15_RecApart.j2 k x5 x7 true x317000 x317001 x317002 x317003 x318000 x318001 x318002 x318003))
def tiklaw15_RecApart.j2 : Nat → List Int → List Int → Bool → Int → Int → Int → List Int → Int → Int → Int → List Int → Option (Bool)
  | 0, _, _, _, _, _, _, _, _, _, _, _ => none
  | k + 1, x5, x7, x59, x317000, x317001, x317002, x317003, x318000, x318001, x318002, x318003 => if x59 = true then ((tiklaw15_first.f k).bind fun t329 => (some t329)) else (if (x5.length : Int) < (x7.length : Int) then (if 0 ≤ (x5.length : Int) then (if (x5.length : Int) ≤ (x7.length : Int) then ((tikref_Bytes.f (x7.take ((x5.length : Int) : Int).toNat) x5).bind fun t334 => (if t334 = true then (tiklaw15_RecApart.j3 k x5 x7 true x317000 x317001 x317002 x317003 x318000 x318001 x318002 x318003) else (if (x7.length : Int) < (x5.length : Int) then (if 0 ≤ (x7.length : Int) then (if (x7.length : Int) ≤ (x5.length : Int) then ((tikref_Bytes.f (x5.take ((x7.length : Int) : Int).toNat) x7).bind fun t339 => (tiklaw15_RecApart.j3 k x5 x7 t339 x317000 x317001 x317002 x317003 x318000 x318001 x318002 x318003)) else (none)) else (none)) else (tiklaw15_RecApart.j3 k x5 x7 false x317000 x317001 x317002 x317003 x318000 x318001 x318002 x318003)))) else (none)) else (none)) else (if (x7.length : Int) < (x5.length : Int) then (if 0 ≤ (x7.length : Int) then (if (x7.length : Int) ≤ (x5.length : Int) then ((tikref_Bytes.f (x5.take ((x7.length : Int) : Int).toNat) x7).bind fun t344 => (tiklaw15_RecApart.j3 k x5 x7 t344 x317000 x317001 x317002 x317003 x318000 x318001 x318002 x318003)) else (none)) else (none)) else (tiklaw15_RecApart.j3 k x5 x7 false x317000 x317001 x317002 x317003 x318000 x318001 x318002 x318003)))
def tiklaw15_RecApart.j3 : Nat → List Int → List Int → Bool → Int → Int → Int → List Int → Int → Int → Int → List Int → Option (Bool)
  | 0, _, _, _, _, _, _, _, _, _, _, _ => none
  | k + 1, x5, x7, x9, x317000, x317001, x317002, x317003, x318000, x318001, x318002, x318003 => (tikref_CopyBytes.f x5).bind fun t345 => (if t345.length + x7.length < 140737488355328 then ((rec_Decode.f (t345 ++ x7) (x5.length : Int)).bind fun bt351 => ((tiklaw15_first.f k).bind fun t360 => (if t360 = true then ((tikref_Bytes.f x5 x7).bind fun t361 => ((rec_Same.f x317000 x317001 x317002 x317003 x318000 x318001 x318002 x318003).bind fun t362 => (if (t361 == t362) = true then (if x9 = true then (some false) else (if bt351.2.2.2.2.2 = 0 then ((rec_Same.f bt351.1 bt351.2.1 bt351.2.2.1 bt351.2.2.2.1 x318000 x318001 x318002 x318003).bind fun t363 => (if t363 = true then (some (bt351.2.2.2.2.1 == (wrap64 ((x5.length : Int) + (x7.length : Int))))) else (some false))) else (some false))) else (some false)))) else (some false)))) else (none))
end
def tiklaw15_RecApart.f (k : Nat) (a0_0 : Int) (a0_1 : Int) (a0_2 : Int) (l0_3 : List Int) (a1_0 : Int) (a1_1 : Int) (a1_2 : Int) (l1_3 : List Int) : Option (Bool) := (tiklaw15_first.f k).bind fun t318 => (if t318 = true then (if (l0_3.length : Int) > 3000 then (tiklaw15_RecApart.j0 k true a0_0 a0_1 a0_2 l0_3 a1_0 a1_1 a1_2 l1_3) else (tiklaw15_RecApart.j0 k (decide ((l1_3.length : Int) > 3000)) a0_0 a0_1 a0_2 l0_3 a1_0 a1_1 a1_2 l1_3)) else (some false))
def tiklaw15_RecApart.T13 : Bool × List (List Nat × List Nat) := (true, [([], []), ([0, 0], [0]), ([1], [1]), ([1], [1]), ([2, 3, 1, 1], [1, 2, 3]), ([1], [1]), ([1], [1]), ([5, 6, 4, 1], [1, 5, 6]), ([4, 7, 1], [1, 4, 7]), ([1, 8], [1, 8]), ([9, 7], [9]), ([10], [10]), ([11, 10], [10, 11]), ([10, 12], [10, 12]), ([13, 10], [13]), ([14], [14]), ([15, 14], [14, 15]), ([14, 16], [14, 16]), ([17, 14], [17]), ([18], [18]), ([18], [18]), ([19, 20, 18, 18], [18, 19, 20]), ([18, 21], [18, 21]), ([22, 21], [22]), ([23], [23]), ([23], [23]), ([25, 23], [23, 25]), ([23], [23]), ([27, 23], [23, 27]), ([26, 28, 23], [23, 26, 28]), ([24, 29, 23], [23, 24, 29]), ([23, 30], [23, 30]), ([31, 23, 0, 1, 2, 3, 4, 5, 6, 7, 8, 9, 10, 11, 12, 13, 14, 15, 16, 17, 18, 19, 20, 21, 22, 23, 24, 25, 26, 27, 28, 29, 30, 31], [31])])
def tiklaw15_RecApart.B13 : List Nat := [0, 1, 3, 3, 15, 3, 3, 127, 255, 511, 1023, 2047, 4095, 8191, 16383, 32767, 65535, 131071, 262143, 524287, 524287, 2097151, 4194303, 8388607, 16777215, 16777215, 50331647, 16777215, 150994943, 520093695, 1073741823, 2147483647, 4294967295]
theorem tiklaw15_RecApart.tab13 : rtab .any (opsOf Try.f5 13) = tiklaw15_RecApart.T13 := by kernel_rfl
theorem tiklaw15_RecApart.bits13 : waitsOk tiklaw15_RecApart.T13.2 tiklaw15_RecApart.B13 = true := by kernel_rfl
set_option maxHeartbeats 8000000 in
set_option maxRecDepth 100000 in
theorem tiklaw15_RecApart.calls (k : Nat) (a0_0 : Int) (a0_1 : Int) (a0_2 : Int) (A0_3 : Option Addr) (c0_3 : Nat) (l0_3 : List Int) (a1_0 : Int) (a1_1 : Int) (a1_2 : Int) (A1_3 : Option Addr) (c1_3 : Nat) (l1_3 : List Int) (r : Bool) (w : World) (hr0_3 : Kd.C (Kd.int .u8) w A0_3 l0_3.length l0_3) (hc0_3 : l0_3.length ≤ c0_3) (hr1_3 : Kd.C (Kd.int .u8) w A1_3 l1_3.length l1_3) (hc1_3 : l1_3.length ≤ c1_3) (hr_ : Aside0 (r = true)) (h : tiklaw15_RecApart.f k a0_0 a0_1 a0_2 l0_3 a1_0 a1_1 a1_2 l1_3 = some r) :
    Calls Try.prog 5 #[.agg #[.int .i64 a0_0, .int .u64 a0_1, .int .u64 a0_2, .slice A0_3 l0_3.length c0_3], .agg #[.int .i64 a1_0, .int .u64 a1_1, .int .u64 a1_2, .slice A1_3 l1_3.length c1_3]] w fun e w' => e = .returned (.bool r) ∧ Below w.heap.size w w' := by
  have hu25 := Try.underlying25
  have HR0_3 := Aside0.mk hr0_3
  have HC0_3 := Aside0.mk hc0_3
  clear hr0_3 hc0_3
  have HR1_3 := Aside0.mk hr1_3
  have HC1_3 := Aside0.mk hc1_3
  clear hr1_3 hc1_3
  have HB := Aside0.mk (Below.refl w.heap.size w)
  have H : ((tiklaw15_first.f k).bind fun t318 => (if t318 = true then (if (l0_3.length : Int) > 3000 then (tiklaw15_RecApart.j0 k true a0_0 a0_1 a0_2 l0_3 a1_0 a1_1 a1_2 l1_3) else (tiklaw15_RecApart.j0 k (decide ((l1_3.length : Int) > 3000)) a0_0 a0_1 a0_2 l0_3 a1_0 a1_1 a1_2 l1_3)) else (some false))) = some r := h
  clear h
  replace H := Option.bind_eq_some_iff.mp H
  obtain ⟨t318, A30, H⟩ := H
  replace H : (if t318 = true then (if (l0_3.length : Int) > 3000 then (tiklaw15_RecApart.j0 k true a0_0 a0_1 a0_2 l0_3 a1_0 a1_1 a1_2 l1_3) else (tiklaw15_RecApart.j0 k (decide ((l1_3.length : Int) > 3000)) a0_0 a0_1 a0_2 l0_3 a1_0 a1_1 a1_2 l1_3)) else (some false)) = some r := H
  have A3 := Aside0.mk A30
  clear A30
  by_cases c4 : t318 = true
  · subst c4
    have H1 : (if (l0_3.length : Int) > 3000 then (tiklaw15_RecApart.j0 k true a0_0 a0_1 a0_2 l0_3 a1_0 a1_1 a1_2 l1_3) else (tiklaw15_RecApart.j0 k (decide ((l1_3.length : Int) > 3000)) a0_0 a0_1 a0_2 l0_3 a1_0 a1_1 a1_2 l1_3)) = some r := by rw [if_pos rfl] at H; exact H
    clear H
    have H := H1
    clear H1
    have HC5 := Aside0.mk H
    clear H
    go_enter Try.func5, Try.ntmps5
    go_upto_region 3 with (first | ((with_reducible refine gate_dst (N := 2) rfl ?_); (try (refine gate_guard (by rfl) ?_; dsimp only)); refine box_event ?hg (N := 2) ?hd (cs := #[.int .i64 a0_0, .int .u64 a0_1, .int .u64 a0_2, .slice A0_3 l0_3.length c0_3]) (t := 25) ?hr ?_; (case hd => rfl); (case hg => rfl); (case hr => first | (go_simp; done) | (go_simp; rfl)); intro gb316 hg w6 hbox hb; have n0_ := Aside0.mk (below_step (by repeat (first | (with_reducible first | exact HB.out | apply below_alloc | apply pw_below_drewN | apply below_drew1) | exact HB.out)) hb); have n1_ := Aside0.mk (hbox); have n2_ := Aside0.mk ((by rw [hg]; exact (below_size (by repeat (first | (with_reducible first | exact HB.out | apply below_alloc | apply pw_below_drewN | apply below_drew1) | exact HB.out))) : w.heap.size ≤ gb316)); have n3_ := Aside0.mk ((by rw [hg]; exact (below_size (by repeat (first | (with_reducible first | exact HB.out | apply below_alloc | apply pw_below_drewN | apply below_drew1) | exact HB.out))) : w.heap.size ≤ gb316)); clear HB; have HB := n0_; have BK316 := n1_; have GW316 := n2_; have GE316 := n3_; clear n0_ n1_ n2_ n3_; clear hb hbox hg) | ((with_reducible refine gate_dst (N := 3) rfl ?_); (try (refine gate_guard (by rfl) ?_; dsimp only)); refine box_event ?hg (N := 3) ?hd (cs := #[.int .i64 a1_0, .int .u64 a1_1, .int .u64 a1_2, .slice A1_3 l1_3.length c1_3]) (t := 25) ?hr ?_; (case hd => rfl); (case hg => rfl); (case hr => first | (go_simp; done) | (go_simp; rfl)); intro gb317 hg w7 hbox hb; have n0_ := Aside0.mk (blk_below (g := gb316) (o := .cells #[.int .i64 a0_0, .int .u64 a0_1, .int .u64 a0_2, .slice A0_3 l0_3.length c0_3] 25 (0, 0)) (by (with_reducible repeat (first | refine blk_drewN ?_ _ | refine blk_drew ?_ | refine blk_alloc ?_ _)); exact BK316.out) hb); have n1_ := Aside0.mk (below_step (by repeat (first | (with_reducible first | exact HB.out | apply below_alloc | apply pw_below_drewN | apply below_drew1 | refine below_set ?_ GE316.out) | exact HB.out)) hb); have n2_ := Aside0.mk (hbox); have n3_ := Aside0.mk ((by rw [hg]; exact (below_size (by repeat (first | (with_reducible first | exact HB.out | apply below_alloc | apply pw_below_drewN | apply below_drew1 | refine below_set ?_ GE316.out) | exact HB.out))) : w.heap.size ≤ gb317)); have n4_ := Aside0.mk ((by rw [hg]; exact (below_size (by repeat (first | (with_reducible first | exact HB.out | apply below_alloc | apply pw_below_drewN | apply below_drew1 | refine below_set ?_ GE316.out) | exact HB.out))) : w.heap.size ≤ gb317)); have n5_ := Aside0.mk ((by rw [hg]; exact Nat.ne_of_lt (blk_lt (g := gb316) (o := .cells #[.int .i64 a0_0, .int .u64 a0_1, .int .u64 a0_2, .slice A0_3 l0_3.length c0_3] 25 (0, 0)) (by (with_reducible repeat (first | refine blk_drewN ?_ _ | refine blk_drew ?_ | refine blk_alloc ?_ _)); exact BK316.out)) : gb316 ≠ gb317)); have n6_ := Aside0.mk ((by rw [hg]; exact Nat.ne_of_gt (blk_lt (g := gb316) (o := .cells #[.int .i64 a0_0, .int .u64 a0_1, .int .u64 a0_2, .slice A0_3 l0_3.length c0_3] 25 (0, 0)) (by (with_reducible repeat (first | refine blk_drewN ?_ _ | refine blk_drew ?_ | refine blk_alloc ?_ _)); exact BK316.out)) : gb317 ≠ gb316)); clear BK316; clear HB; have BK316 := n0_; have HB := n1_; have BK317 := n2_; have GW317 := n3_; have GE317 := n4_; have NB316_317 := n5_; have NB317_316 := n6_; clear n0_ n1_ n2_ n3_ n4_ n5_ n6_; clear hb hbox hg) | ((with_reducible refine gate_callee (f := 10) rfl ?_); refine goesL_ (some 13) rfl rfl Try.func10 (by kernel_rfl) rfl #[] rfl (by (try simp only [List.map_toArray, List.map_cons, List.map_nil]); first | done | rfl | (simp only [List.length_drop, List.length_take]; rfl)) ?_; (with_reducible refine (tiklaw15_first.calls k  true _ A3.out).mono ?_); rintro e w8 ⟨rfl, hb⟩; refine ⟨_, rfl, ?_⟩; have n0_ := Aside0.mk (blk_below (g := gb316) (o := .cells #[.int .i64 a0_0, .int .u64 a0_1, .int .u64 a0_2, .slice A0_3 l0_3.length c0_3] 25 (0, 0)) (by (with_reducible repeat (first | refine blk_drewN ?_ _ | refine blk_drew ?_ | refine blk_alloc ?_ _)); exact BK316.out) hb); have n1_ := Aside0.mk (blk_below (g := gb317) (o := .cells #[.int .i64 a1_0, .int .u64 a1_1, .int .u64 a1_2, .slice A1_3 l1_3.length c1_3] 25 (0, 0)) (by (with_reducible repeat (first | refine blk_drewN ?_ _ | refine blk_drew ?_ | refine blk_alloc ?_ _)); exact BK317.out) hb); have n2_ := Aside0.mk (below_step (by repeat (first | (with_reducible first | exact HB.out | apply below_alloc | apply pw_below_drewN | apply below_drew1 | refine below_set ?_ GE316.out | refine below_set ?_ GE317.out) | exact HB.out)) hb); clear BK316; clear BK317; clear HB; have BK316 := n0_; have BK317 := n1_; have HB := n2_; clear n0_ n1_ n2_; (try clear hb); (try clear hb2); (try clear hk); (try clear hi)))
    (try simp only [Act.put, List.setIfInBounds_toArray, List.set_cons_zero, List.set_cons_succ])
    go_cut [24] (fun v24 wc => ∃ (kq : Nat) (x24_4 : Bool), v24 = .bool x24_4 ∧ Aside0 (tiklaw15_RecApart.j0 kq x24_4 a0_0 a0_1 a0_2 l0_3 a1_0 a1_1 a1_2 l1_3 = some r) ∧ Aside0 (kq ≤ k) ∧ Aside0 (wc.heap[gb316]? = some (.cells #[.int .i64 a0_0, .int .u64 a0_1, .int .u64 a0_2, (.slice A0_3 l0_3.length c0_3)] 25 (0, 0))) ∧ Aside0 (wc.heap[gb317]? = some (.cells #[.int .i64 a1_0, .int .u64 a1_1, .int .u64 a1_2, (.slice A1_3 l1_3.length c1_3)] 25 (0, 0))) ∧ Aside0 (Below w.heap.size w wc))
    case first =>
      have H := HC5.out
      clear HC5
      by_cases c9 : (l0_3.length : Int) > 3000
      · rw [if_pos c9] at H
        have c9b0 : decide (3000 < (l0_3.length : Int)) = true := decide_eq_true c9
        have c9b1 : decide (3000 < l0_3.length) = true := decide_eq_true (by omega)
        clear c9
        (first | rw [c9b0] | (simp only [i64_w, i32_w]; rw [c9b0]) | skip)
        have H' := Aside0.mk H
        clear H
        have hnb10 := NB316_317.out
        have hnc10 := NB317_316.out
        have hcz11_0 : w8.cell? ⟨gb316, 0, none⟩ = some (.int .i64 a0_0) := (blk_cell BK316.out 0).trans rfl
        have hcz11_1 : w8.cell? ⟨gb316, 1, none⟩ = some (.int .u64 a0_1) := (blk_cell BK316.out 1).trans rfl
        have hcz11_2 : w8.cell? ⟨gb316, 2, none⟩ = some (.int .u64 a0_2) := (blk_cell BK316.out 2).trans rfl
        have hcz11_3 : w8.cell? ⟨gb316, 3, none⟩ = some (.slice A0_3 l0_3.length c0_3) := (blk_cell BK316.out 3).trans rfl
        have hfz11_0 := blk_frozen BK316.out 0
        have hfz11_1 := blk_frozen BK316.out 1
        have hfz11_2 := blk_frozen BK316.out 2
        have hfz11_3 := blk_frozen BK316.out 3
        go_wp2
        go_meet
        case rel => exact ⟨_, (true), (by first | rfl | (simp; done) | (simp [*]; done)), H', ⟨by first | omega | exact Nat.le_refl _⟩, ⟨by (with_reducible repeat (first | refine blk_drewN ?_ _ | refine blk_drew ?_ | refine blk_alloc ?_ _)); exact BK316.out⟩, ⟨by (with_reducible repeat (first | refine blk_drewN ?_ _ | refine blk_drew ?_ | refine blk_alloc ?_ _)); exact BK317.out⟩, ⟨by repeat (first | (with_reducible first | exact HB.out | apply below_alloc | apply pw_below_drewN | apply below_drew1 | refine below_set ?_ GE316.out | refine below_set ?_ GE317.out) | exact HB.out)⟩⟩
      · rw [if_neg c9] at H
        have c9b0 : decide (3000 < (l0_3.length : Int)) = false := decide_eq_false c9
        have c9b1 : decide (3000 < l0_3.length) = false := decide_eq_false (by omega)
        clear c9
        (first | rw [c9b0] | (simp only [i64_w, i32_w]; rw [c9b0]) | skip)
        have H' := Aside0.mk H
        clear H
        have hnb12 := NB316_317.out
        have hnc12 := NB317_316.out
        have hcz13_0 : w8.cell? ⟨gb316, 0, none⟩ = some (.int .i64 a0_0) := (blk_cell BK316.out 0).trans rfl
        have hcz13_1 : w8.cell? ⟨gb316, 1, none⟩ = some (.int .u64 a0_1) := (blk_cell BK316.out 1).trans rfl
        have hcz13_2 : w8.cell? ⟨gb316, 2, none⟩ = some (.int .u64 a0_2) := (blk_cell BK316.out 2).trans rfl
        have hcz13_3 : w8.cell? ⟨gb316, 3, none⟩ = some (.slice A0_3 l0_3.length c0_3) := (blk_cell BK316.out 3).trans rfl
        have hfz13_0 := blk_frozen BK316.out 0
        have hfz13_1 := blk_frozen BK316.out 1
        have hfz13_2 := blk_frozen BK316.out 2
        have hfz13_3 := blk_frozen BK316.out 3
        have hcz14_0 : w8.cell? ⟨gb317, 0, none⟩ = some (.int .i64 a1_0) := (blk_cell BK317.out 0).trans rfl
        have hcz14_1 : w8.cell? ⟨gb317, 1, none⟩ = some (.int .u64 a1_1) := (blk_cell BK317.out 1).trans rfl
        have hcz14_2 : w8.cell? ⟨gb317, 2, none⟩ = some (.int .u64 a1_2) := (blk_cell BK317.out 2).trans rfl
        have hcz14_3 : w8.cell? ⟨gb317, 3, none⟩ = some (.slice A1_3 l1_3.length c1_3) := (blk_cell BK317.out 3).trans rfl
        have hfz14_0 := blk_frozen BK317.out 0
        have hfz14_1 := blk_frozen BK317.out 1
        have hfz14_2 := blk_frozen BK317.out 2
        have hfz14_3 := blk_frozen BK317.out 3
        go_wp2
        go_meet
        case rel => exact ⟨_, (decide ((l1_3.length : Int) > 3000)), (by first | rfl | (simp; done) | (simp [*]; done)), H', ⟨by first | omega | exact Nat.le_refl _⟩, ⟨by (with_reducible repeat (first | refine blk_drewN ?_ _ | refine blk_drew ?_ | refine blk_alloc ?_ _)); exact BK316.out⟩, ⟨by (with_reducible repeat (first | refine blk_drewN ?_ _ | refine blk_drew ?_ | refine blk_alloc ?_ _)); exact BK317.out⟩, ⟨by repeat (first | (with_reducible first | exact HB.out | apply below_alloc | apply pw_below_drewN | apply below_drew1 | refine below_set ?_ GE316.out | refine below_set ?_ GE317.out) | exact HB.out)⟩⟩
    case rest =>
      clear HC5
      try clear c1
      try clear p2
      try clear c4
      try clear c5
      try clear c9
      try clear c9b0
      try clear c9b1
      try clear c10
      try clear c12
      try clear hcz11_0
      try clear hcz11_1
      try clear hcz11_2
      try clear hcz11_3
      try clear hcz13_0
      try clear hcz13_1
      try clear hcz13_2
      try clear hcz13_3
      try clear hcz14_0
      try clear hcz14_1
      try clear hcz14_2
      try clear hcz14_3
      try clear hfz11_0
      try clear hfz11_1
      try clear hfz11_2
      try clear hfz11_3
      try clear hfz13_0
      try clear hfz13_1
      try clear hfz13_2
      try clear hfz13_3
      try clear hfz14_0
      try clear hfz14_1
      try clear hfz14_2
      try clear hfz14_3
      obtain ⟨kq, x24_4, rfl, HA, HJ4, BK316, BK317, HB⟩ := hcut
      cases kq with
      | zero => exact absurd HA.out (by simp [tiklaw15_RecApart.j0])
      | succ kj4 =>
        have H := HA.out
        clear HA
        simp only [tiklaw15_RecApart.j0] at H
        by_cases c15 : x24_4 = true
        · subst c15
          have H1 : ((tiklaw15_first.f kj4).bind fun t319 => (some t319)) = some r := by rw [if_pos rfl] at H; exact H
          clear H
          have H := H1
          clear H1
          replace H := Option.bind_eq_some_iff.mp H
          obtain ⟨t319, A160, H⟩ := H
          replace H : (some t319) = some r := H
          have A16 := Aside0.mk A160
          clear A160
          obtain rfl := Option.some.inj H
          go_wp2_with (first | ((with_reducible refine gate_callee (f := 10) rfl ?_); refine goesL_ (some 25) rfl rfl Try.func10 (by kernel_rfl) rfl #[] rfl (by (try simp only [List.map_toArray, List.map_cons, List.map_nil]); first | done | rfl | (simp only [List.length_drop, List.length_take]; rfl)) ?_; (with_reducible refine (tiklaw15_first.calls kj4  t319 _ A16.out).mono ?_); rintro e w17 ⟨rfl, hb⟩; refine ⟨_, rfl, ?_⟩; have n0_ := Aside0.mk (blk_below (g := gb316) (o := .cells #[.int .i64 a0_0, .int .u64 a0_1, .int .u64 a0_2, .slice A0_3 l0_3.length c0_3] 25 (0, 0)) (by (with_reducible repeat (first | refine blk_drewN ?_ _ | refine blk_drew ?_ | refine blk_alloc ?_ _)); exact BK316.out) hb); have n1_ := Aside0.mk (blk_below (g := gb317) (o := .cells #[.int .i64 a1_0, .int .u64 a1_1, .int .u64 a1_2, .slice A1_3 l1_3.length c1_3] 25 (0, 0)) (by (with_reducible repeat (first | refine blk_drewN ?_ _ | refine blk_drew ?_ | refine blk_alloc ?_ _)); exact BK317.out) hb); have n2_ := Aside0.mk (below_step (by repeat (first | (with_reducible first | exact HB.out | apply below_alloc | apply pw_below_drewN | apply below_drew1 | refine below_set ?_ GE316.out | refine below_set ?_ GE317.out) | exact HB.out)) hb); clear BK316; clear BK317; clear HB; have BK316 := n0_; have BK317 := n1_; have HB := n2_; clear n0_ n1_ n2_; (try clear hb); (try clear hb2); (try clear hk); (try clear hi)))
          go_ret
          exact ⟨by first | rfl | (simp [errW_none, errW_some] <;> rfl) | (simp [*, errW_none, errW_some] <;> rfl), by repeat (first | (with_reducible first | exact HB.out | apply below_alloc | apply pw_below_drewN | apply below_drew1 | refine below_set ?_ GE316.out | refine below_set ?_ GE317.out) | exact HB.out)⟩
        · replace c15 := Bool.eq_false_iff.mpr c15
          subst c15
          have H1 : ((rec_Encode.f kj4 a0_0 a0_1 a0_2 l0_3).bind fun bt320 => ((rec_Encode.f kj4 a1_0 a1_1 a1_2 l1_3).bind fun bt324 => ((rec_May.f a0_0 a0_1 a0_2 l0_3).bind fun t328 => (if ((bt320.2 == 0) != t328) = true then (tiklaw15_RecApart.j1 kj4 bt320.1 bt320.2 bt324.1 bt324.2 true a0_0 a0_1 a0_2 l0_3 a1_0 a1_1 a1_2 l1_3) else (if bt320.2 = 0 then (tiklaw15_RecApart.j1 kj4 bt320.1 bt320.2 bt324.1 bt324.2 false a0_0 a0_1 a0_2 l0_3 a1_0 a1_1 a1_2 l1_3) else (if bt320.2 = 1 then (tiklaw15_RecApart.j1 kj4 bt320.1 bt320.2 bt324.1 bt324.2 ((bt320.1.length : Int) != 0) a0_0 a0_1 a0_2 l0_3 a1_0 a1_1 a1_2 l1_3) else (tiklaw15_RecApart.j1 kj4 bt320.1 bt320.2 bt324.1 bt324.2 true a0_0 a0_1 a0_2 l0_3 a1_0 a1_1 a1_2 l1_3))))))) = some r := by rw [if_neg (show ¬ (false = true) by decide)] at H; exact H
          clear H
          have H := H1
          clear H1
          replace H := Option.bind_eq_some_iff.mp H
          obtain ⟨⟨t320, t323⟩, A180, H⟩ := H
          replace H : ((rec_Encode.f kj4 a1_0 a1_1 a1_2 l1_3).bind fun bt324 => ((rec_May.f a0_0 a0_1 a0_2 l0_3).bind fun t328 => (if ((t323 == 0) != t328) = true then (tiklaw15_RecApart.j1 kj4 t320 t323 bt324.1 bt324.2 true a0_0 a0_1 a0_2 l0_3 a1_0 a1_1 a1_2 l1_3) else (if t323 = 0 then (tiklaw15_RecApart.j1 kj4 t320 t323 bt324.1 bt324.2 false a0_0 a0_1 a0_2 l0_3 a1_0 a1_1 a1_2 l1_3) else (if t323 = 1 then (tiklaw15_RecApart.j1 kj4 t320 t323 bt324.1 bt324.2 ((t320.length : Int) != 0) a0_0 a0_1 a0_2 l0_3 a1_0 a1_1 a1_2 l1_3) else (tiklaw15_RecApart.j1 kj4 t320 t323 bt324.1 bt324.2 true a0_0 a0_1 a0_2 l0_3 a1_0 a1_1 a1_2 l1_3)))))) = some r := H
          have A18 := Aside0.mk A180
          clear A180
          replace H := Option.bind_eq_some_iff.mp H
          obtain ⟨⟨t324, t327⟩, A190, H⟩ := H
          replace H : ((rec_May.f a0_0 a0_1 a0_2 l0_3).bind fun t328 => (if ((t323 == 0) != t328) = true then (tiklaw15_RecApart.j1 kj4 t320 t323 t324 t327 true a0_0 a0_1 a0_2 l0_3 a1_0 a1_1 a1_2 l1_3) else (if t323 = 0 then (tiklaw15_RecApart.j1 kj4 t320 t323 t324 t327 false a0_0 a0_1 a0_2 l0_3 a1_0 a1_1 a1_2 l1_3) else (if t323 = 1 then (tiklaw15_RecApart.j1 kj4 t320 t323 t324 t327 ((t320.length : Int) != 0) a0_0 a0_1 a0_2 l0_3 a1_0 a1_1 a1_2 l1_3) else (tiklaw15_RecApart.j1 kj4 t320 t323 t324 t327 true a0_0 a0_1 a0_2 l0_3 a1_0 a1_1 a1_2 l1_3))))) = some r := H
          have A19 := Aside0.mk A190
          clear A190
          have HC20 := Aside0.mk H
          clear H
          have hnb21 := NB316_317.out
          have hnc21 := NB317_316.out
          have hcz22_0 : wc.cell? ⟨gb316, 0, none⟩ = some (.int .i64 a0_0) := (blk_cell BK316.out 0).trans rfl
          have hcz22_1 : wc.cell? ⟨gb316, 1, none⟩ = some (.int .u64 a0_1) := (blk_cell BK316.out 1).trans rfl
          have hcz22_2 : wc.cell? ⟨gb316, 2, none⟩ = some (.int .u64 a0_2) := (blk_cell BK316.out 2).trans rfl
          have hcz22_3 : wc.cell? ⟨gb316, 3, none⟩ = some (.slice A0_3 l0_3.length c0_3) := (blk_cell BK316.out 3).trans rfl
          have hfz22_0 := blk_frozen BK316.out 0
          have hfz22_1 := blk_frozen BK316.out 1
          have hfz22_2 := blk_frozen BK316.out 2
          have hfz22_3 := blk_frozen BK316.out 3
          go_upto_region 7 with (first | ((with_reducible refine gate_callee (f := 11) rfl ?_); refine goesL_ (some 28) rfl rfl Try.func11 (by kernel_rfl) rfl #[.agg #[.int .i64 a0_0, .int .u64 a0_1, .int .u64 a0_2, .slice A0_3 l0_3.length c0_3]] rfl (by (try simp only [List.map_toArray, List.map_cons, List.map_nil]); first | done | rfl | (simp only [List.length_drop, List.length_take]; rfl)) ?_; (with_reducible refine (rec_Encode.calls kj4 a0_0 a0_1 a0_2 (fun k_ => k_ < w.heap.size) _ _ l0_3 t320 t323 _ ?side1 A18.out).mono ?_); (case side1 => exact Kd.V_mk HC0_3.out (Kd.F_below (Kd.C_F (Kd.heap_int .u8) HR0_3.out) (by repeat (first | (with_reducible first | exact HB.out | apply below_alloc | apply pw_below_drewN | apply below_drew1 | refine below_set ?_ GE316.out | refine below_set ?_ GE317.out) | exact HB.out)))); rintro e w23 ⟨v321, rfl, ho0, hb⟩; refine ⟨_, rfl, ?_⟩; have n0_ := Aside0.mk (Kd.R_lower (Kd.R_mono (ok' := fun k_ => True) ho0 (fun _ hk_ => trivial)) (below_size (by repeat (first | (with_reducible first | exact HB.out | apply below_alloc | apply pw_below_drewN | apply below_drew1 | refine below_set ?_ GE316.out | refine below_set ?_ GE317.out) | exact HB.out)))); have n1_ := Aside0.mk (blk_below (g := gb316) (o := .cells #[.int .i64 a0_0, .int .u64 a0_1, .int .u64 a0_2, .slice A0_3 l0_3.length c0_3] 25 (0, 0)) (by (with_reducible repeat (first | refine blk_drewN ?_ _ | refine blk_drew ?_ | refine blk_alloc ?_ _)); exact BK316.out) hb); have n2_ := Aside0.mk (blk_below (g := gb317) (o := .cells #[.int .i64 a1_0, .int .u64 a1_1, .int .u64 a1_2, .slice A1_3 l1_3.length c1_3] 25 (0, 0)) (by (with_reducible repeat (first | refine blk_drewN ?_ _ | refine blk_drew ?_ | refine blk_alloc ?_ _)); exact BK317.out) hb); have n3_ := Aside0.mk (below_step (by repeat (first | (with_reducible first | exact HB.out | apply below_alloc | apply pw_below_drewN | apply below_drew1 | refine below_set ?_ GE316.out | refine below_set ?_ GE317.out) | exact HB.out)) hb); clear BK316; clear BK317; clear HB; have HO322 := n0_; have BK316 := n1_; have BK317 := n2_; have HB := n3_; clear n0_ n1_ n2_ n3_; (try clear hb); (try clear hb2); (try clear hk); (try clear hi); (try clear ho0); have hcz24_0 : w23.cell? ⟨gb317, 0, none⟩ = some (.int .i64 a1_0) := (blk_cell BK317.out 0).trans rfl; have hcz24_1 : w23.cell? ⟨gb317, 1, none⟩ = some (.int .u64 a1_1) := (blk_cell BK317.out 1).trans rfl; have hcz24_2 : w23.cell? ⟨gb317, 2, none⟩ = some (.int .u64 a1_2) := (blk_cell BK317.out 2).trans rfl; have hcz24_3 : w23.cell? ⟨gb317, 3, none⟩ = some (.slice A1_3 l1_3.length c1_3) := (blk_cell BK317.out 3).trans rfl; have hfz24_0 := blk_frozen BK317.out 0; have hfz24_1 := blk_frozen BK317.out 1; have hfz24_2 := blk_frozen BK317.out 2; have hfz24_3 := blk_frozen BK317.out 3) | ((with_reducible refine gate_callee (f := 11) rfl ?_); refine goesL_ (some 33) rfl rfl Try.func11 (by kernel_rfl) rfl #[.agg #[.int .i64 a1_0, .int .u64 a1_1, .int .u64 a1_2, .slice A1_3 l1_3.length c1_3]] rfl (by (try simp only [List.map_toArray, List.map_cons, List.map_nil]); first | done | rfl | (simp only [List.length_drop, List.length_take]; rfl)) ?_; (with_reducible refine (rec_Encode.calls kj4 a1_0 a1_1 a1_2 (fun k_ => k_ < w.heap.size) _ _ l1_3 t324 t327 _ ?side1 A19.out).mono ?_); (case side1 => exact Kd.V_mk HC1_3.out (Kd.F_below (Kd.C_F (Kd.heap_int .u8) HR1_3.out) (by repeat (first | (with_reducible first | exact HB.out | apply below_alloc | apply pw_below_drewN | apply below_drew1 | refine below_set ?_ GE316.out | refine below_set ?_ GE317.out) | exact HB.out)))); rintro e w25 ⟨v325, rfl, ho0, hb⟩; refine ⟨_, rfl, ?_⟩; have n0_ := Aside0.mk (Kd.R_elder' (by (with_reducible repeat (first | apply Kd.R_alloc | apply Kd.R_drewN | apply Kd.R_drew)); exact HO322.out) (Kd.R_base ho0) hb); have n1_ := Aside0.mk (Kd.R_lower (Kd.R_new' (Kd.R_mono (ok' := fun k_ => True) ho0 (fun _ hk_ => trivial)) (Kd.R_lt (by (with_reducible repeat (first | apply Kd.R_alloc | apply Kd.R_drewN | apply Kd.R_drew)); exact HO322.out))) (below_size (by repeat (first | (with_reducible first | exact HB.out | apply below_alloc | apply pw_below_drewN | apply below_drew1 | refine below_set ?_ GE316.out | refine below_set ?_ GE317.out) | exact HB.out)))); have n2_ := Aside0.mk (blk_below (g := gb316) (o := .cells #[.int .i64 a0_0, .int .u64 a0_1, .int .u64 a0_2, .slice A0_3 l0_3.length c0_3] 25 (0, 0)) (by (with_reducible repeat (first | refine blk_drewN ?_ _ | refine blk_drew ?_ | refine blk_alloc ?_ _)); exact BK316.out) hb); have n3_ := Aside0.mk (blk_below (g := gb317) (o := .cells #[.int .i64 a1_0, .int .u64 a1_1, .int .u64 a1_2, .slice A1_3 l1_3.length c1_3] 25 (0, 0)) (by (with_reducible repeat (first | refine blk_drewN ?_ _ | refine blk_drew ?_ | refine blk_alloc ?_ _)); exact BK317.out) hb); have n4_ := Aside0.mk (below_step (by repeat (first | (with_reducible first | exact HB.out | apply below_alloc | apply pw_below_drewN | apply below_drew1 | refine below_set ?_ GE316.out | refine below_set ?_ GE317.out) | exact HB.out)) hb); clear HO322; clear BK316; clear BK317; clear HB; have HO322 := n0_; have HO326 := n1_; have BK316 := n2_; have BK317 := n3_; have HB := n4_; clear n0_ n1_ n2_ n3_ n4_; (try clear hb); (try clear hb2); (try clear hk); (try clear hi); (try clear ho0)))
          (try simp only [Act.put, List.setIfInBounds_toArray, List.set_cons_zero, List.set_cons_succ])
          go_cut [53] (fun v53 wc => ∃ (kq : Nat) (x53_19 : Bool), v53 = .bool x53_19 ∧ Aside0 (tiklaw15_RecApart.j1 kq t320 t323 t324 t327 x53_19 a0_0 a0_1 a0_2 l0_3 a1_0 a1_1 a1_2 l1_3 = some r) ∧ Aside0 (kq ≤ kj4) ∧ Aside0 (Kd.R (Kd.int .u8) 5 wc w.heap.size (fun k_ => some k_ ≠ (v325 : Value).ownBlock) v321 t320) ∧ Aside0 (Kd.R (Kd.int .u8) 5 wc w.heap.size (fun k_ => some k_ ≠ (v321 : Value).ownBlock) v325 t324) ∧ Aside0 (wc.heap[gb316]? = some (.cells #[.int .i64 a0_0, .int .u64 a0_1, .int .u64 a0_2, (.slice A0_3 l0_3.length c0_3)] 25 (0, 0))) ∧ Aside0 (wc.heap[gb317]? = some (.cells #[.int .i64 a1_0, .int .u64 a1_1, .int .u64 a1_2, (.slice A1_3 l1_3.length c1_3)] 25 (0, 0))) ∧ Aside0 (Below w.heap.size w wc))
          case first =>
            have H := HC20.out
            clear HC20
            replace H := Option.bind_eq_some_iff.mp H
            obtain ⟨t328, A260, H⟩ := H
            replace H : (if ((t323 == 0) != t328) = true then (tiklaw15_RecApart.j1 kj4 t320 t323 t324 t327 true a0_0 a0_1 a0_2 l0_3 a1_0 a1_1 a1_2 l1_3) else (if t323 = 0 then (tiklaw15_RecApart.j1 kj4 t320 t323 t324 t327 false a0_0 a0_1 a0_2 l0_3 a1_0 a1_1 a1_2 l1_3) else (if t323 = 1 then (tiklaw15_RecApart.j1 kj4 t320 t323 t324 t327 ((t320.length : Int) != 0) a0_0 a0_1 a0_2 l0_3 a1_0 a1_1 a1_2 l1_3) else (tiklaw15_RecApart.j1 kj4 t320 t323 t324 t327 true a0_0 a0_1 a0_2 l0_3 a1_0 a1_1 a1_2 l1_3)))) = some r := H
            have A26 := Aside0.mk A260
            clear A260
            by_cases c27 : ((t323 == 0) != t328) = true
            · rw [if_pos c27] at H
              have c27b0 : ((t323 == 0) != t328) = true := c27
              (try (have c27b1 : decide ((t323 == 0) = t328) = false := by simpa using c27))
              (try (have c27b2 : ((t323 == 0) == t328) = false := by simpa using c27))
              (try (have c27b3 : ¬ ((t323 == 0) = t328) := by simpa using c27))
              clear c27
              (first | rw [c27b0] | (simp only [i64_w, i32_w]; rw [c27b0]) | skip)
              have H' := Aside0.mk H
              clear H
              have hnb28 := NB316_317.out
              have hnc28 := NB317_316.out
              have hcz29_0 : w25.cell? ⟨gb316, 0, none⟩ = some (.int .i64 a0_0) := (blk_cell BK316.out 0).trans rfl
              have hcz29_1 : w25.cell? ⟨gb316, 1, none⟩ = some (.int .u64 a0_1) := (blk_cell BK316.out 1).trans rfl
              have hcz29_2 : w25.cell? ⟨gb316, 2, none⟩ = some (.int .u64 a0_2) := (blk_cell BK316.out 2).trans rfl
              have hcz29_3 : w25.cell? ⟨gb316, 3, none⟩ = some (.slice A0_3 l0_3.length c0_3) := (blk_cell BK316.out 3).trans rfl
              have hfz29_0 := blk_frozen BK316.out 0
              have hfz29_1 := blk_frozen BK316.out 1
              have hfz29_2 := blk_frozen BK316.out 2
              have hfz29_3 := blk_frozen BK316.out 3
              go_wp2_with (first | ((with_reducible refine gate_callee (f := 18) rfl ?_); refine goesL_ (some 39) rfl rfl Try.func18 (by kernel_rfl) rfl #[.agg #[.int .i64 a0_0, .int .u64 a0_1, .int .u64 a0_2, .slice A0_3 l0_3.length c0_3]] rfl (by (try simp only [List.map_toArray, List.map_cons, List.map_nil]); first | done | rfl | (simp only [List.length_drop, List.length_take]; rfl)) ?_; (with_reducible refine (rec_May.calls a0_0 a0_1 a0_2 _ _ l0_3 t328 _ ?side1 ?side2 A26.out).mono ?_); (case side1 => repeat (first | exact (Kd.C_below HR0_3.out HB.out) | (with_reducible refine Kd.C_alloc ?_ _) | (with_reducible refine Kd.C_drewN ?_ _) | (with_reducible refine Kd.C_drew ?_))); (case side2 => exact HC0_3.out); rintro e w30 ⟨rfl, hb⟩; refine ⟨_, rfl, ?_⟩; have n0_ := Aside0.mk (Kd.R_below (by (with_reducible repeat (first | apply Kd.R_alloc | apply Kd.R_drewN | apply Kd.R_drew)); exact HO322.out) hb); have n1_ := Aside0.mk (Kd.R_below (by (with_reducible repeat (first | apply Kd.R_alloc | apply Kd.R_drewN | apply Kd.R_drew)); exact HO326.out) hb); have n2_ := Aside0.mk (blk_below (g := gb316) (o := .cells #[.int .i64 a0_0, .int .u64 a0_1, .int .u64 a0_2, .slice A0_3 l0_3.length c0_3] 25 (0, 0)) (by (with_reducible repeat (first | refine blk_drewN ?_ _ | refine blk_drew ?_ | refine blk_alloc ?_ _)); exact BK316.out) hb); have n3_ := Aside0.mk (blk_below (g := gb317) (o := .cells #[.int .i64 a1_0, .int .u64 a1_1, .int .u64 a1_2, .slice A1_3 l1_3.length c1_3] 25 (0, 0)) (by (with_reducible repeat (first | refine blk_drewN ?_ _ | refine blk_drew ?_ | refine blk_alloc ?_ _)); exact BK317.out) hb); have n4_ := Aside0.mk (below_step (by repeat (first | (with_reducible first | exact HB.out | apply below_alloc | apply pw_below_drewN | apply below_drew1 | refine below_set ?_ GE316.out | refine below_set ?_ GE317.out) | exact HB.out)) hb); clear HO322; clear HO326; clear BK316; clear BK317; clear HB; have HO322 := n0_; have HO326 := n1_; have BK316 := n2_; have BK317 := n3_; have HB := n4_; clear n0_ n1_ n2_ n3_ n4_; (try clear hb); (try clear hb2); (try clear hk); (try clear hi)))
              go_meet
              case rel => exact ⟨_, (true), (by first | rfl | (simp; done) | (simp [*]; done)), H', ⟨by have := HJ4.out; first | omega | exact Nat.le_refl _⟩, ⟨by (with_reducible repeat (first | apply Kd.R_alloc | apply Kd.R_drewN | apply Kd.R_drew)); exact Kd.R_mono HO322.out (fun _ hk => hk.2)⟩, ⟨by (with_reducible repeat (first | apply Kd.R_alloc | apply Kd.R_drewN | apply Kd.R_drew)); exact Kd.R_mono HO326.out (fun _ hk => hk.2)⟩, ⟨by (with_reducible repeat (first | refine blk_drewN ?_ _ | refine blk_drew ?_ | refine blk_alloc ?_ _)); exact BK316.out⟩, ⟨by (with_reducible repeat (first | refine blk_drewN ?_ _ | refine blk_drew ?_ | refine blk_alloc ?_ _)); exact BK317.out⟩, ⟨by repeat (first | (with_reducible first | exact HB.out | apply below_alloc | apply pw_below_drewN | apply below_drew1 | refine below_set ?_ GE316.out | refine below_set ?_ GE317.out) | exact HB.out)⟩⟩
            · rw [if_neg c27] at H
              have c27b0 : ((t323 == 0) != t328) = false := by simpa using c27
              (try (have c27b1 : decide ((t323 == 0) = t328) = true := by simpa using c27))
              (try (have c27b2 : ((t323 == 0) == t328) = true := by simpa using c27))
              clear c27
              (first | rw [c27b0] | (simp only [i64_w, i32_w]; rw [c27b0]) | skip)
              by_cases c31 : t323 = 0
              · rw [if_pos c31] at H
                have c31b0 : (t323 == 0) = true := beq_iff_eq.mpr c31
                (try (have zq_ : t328 = true := by simpa [c31b0] using c27b0))
                (try (have zq_ : t328 = false := by simpa [c31b0] using c27b0))
                have c31b1 : (t323 != 0) = false := bne_eq_false_iff_eq.mpr c31
                clear c31
                have H' := Aside0.mk H
                clear H
                have hnb32 := NB316_317.out
                have hnc32 := NB317_316.out
                have hcz33_0 : w25.cell? ⟨gb316, 0, none⟩ = some (.int .i64 a0_0) := (blk_cell BK316.out 0).trans rfl
                have hcz33_1 : w25.cell? ⟨gb316, 1, none⟩ = some (.int .u64 a0_1) := (blk_cell BK316.out 1).trans rfl
                have hcz33_2 : w25.cell? ⟨gb316, 2, none⟩ = some (.int .u64 a0_2) := (blk_cell BK316.out 2).trans rfl
                have hcz33_3 : w25.cell? ⟨gb316, 3, none⟩ = some (.slice A0_3 l0_3.length c0_3) := (blk_cell BK316.out 3).trans rfl
                have hfz33_0 := blk_frozen BK316.out 0
                have hfz33_1 := blk_frozen BK316.out 1
                have hfz33_2 := blk_frozen BK316.out 2
                have hfz33_3 := blk_frozen BK316.out 3
                go_wp2_with (first | ((with_reducible refine gate_callee (f := 18) rfl ?_); refine goesL_ (some 39) rfl rfl Try.func18 (by kernel_rfl) rfl #[.agg #[.int .i64 a0_0, .int .u64 a0_1, .int .u64 a0_2, .slice A0_3 l0_3.length c0_3]] rfl (by (try simp only [List.map_toArray, List.map_cons, List.map_nil]); first | done | rfl | (simp only [List.length_drop, List.length_take]; rfl)) ?_; (with_reducible refine (rec_May.calls a0_0 a0_1 a0_2 _ _ l0_3 t328 _ ?side1 ?side2 A26.out).mono ?_); (case side1 => repeat (first | exact (Kd.C_below HR0_3.out HB.out) | (with_reducible refine Kd.C_alloc ?_ _) | (with_reducible refine Kd.C_drewN ?_ _) | (with_reducible refine Kd.C_drew ?_))); (case side2 => exact HC0_3.out); rintro e w34 ⟨rfl, hb⟩; refine ⟨_, rfl, ?_⟩; have n0_ := Aside0.mk (Kd.R_below (by (with_reducible repeat (first | apply Kd.R_alloc | apply Kd.R_drewN | apply Kd.R_drew)); exact HO322.out) hb); have n1_ := Aside0.mk (Kd.R_below (by (with_reducible repeat (first | apply Kd.R_alloc | apply Kd.R_drewN | apply Kd.R_drew)); exact HO326.out) hb); have n2_ := Aside0.mk (blk_below (g := gb316) (o := .cells #[.int .i64 a0_0, .int .u64 a0_1, .int .u64 a0_2, .slice A0_3 l0_3.length c0_3] 25 (0, 0)) (by (with_reducible repeat (first | refine blk_drewN ?_ _ | refine blk_drew ?_ | refine blk_alloc ?_ _)); exact BK316.out) hb); have n3_ := Aside0.mk (blk_below (g := gb317) (o := .cells #[.int .i64 a1_0, .int .u64 a1_1, .int .u64 a1_2, .slice A1_3 l1_3.length c1_3] 25 (0, 0)) (by (with_reducible repeat (first | refine blk_drewN ?_ _ | refine blk_drew ?_ | refine blk_alloc ?_ _)); exact BK317.out) hb); have n4_ := Aside0.mk (below_step (by repeat (first | (with_reducible first | exact HB.out | apply below_alloc | apply pw_below_drewN | apply below_drew1 | refine below_set ?_ GE316.out | refine below_set ?_ GE317.out) | exact HB.out)) hb); clear HO322; clear HO326; clear BK316; clear BK317; clear HB; have HO322 := n0_; have HO326 := n1_; have BK316 := n2_; have BK317 := n3_; have HB := n4_; clear n0_ n1_ n2_ n3_ n4_; (try clear hb); (try clear hb2); (try clear hk); (try clear hi)))
                go_meet
                case rel => exact ⟨_, (false), (by first | rfl | (simp; done) | (simp [*]; done)), H', ⟨by have := HJ4.out; first | omega | exact Nat.le_refl _⟩, ⟨by (with_reducible repeat (first | apply Kd.R_alloc | apply Kd.R_drewN | apply Kd.R_drew)); exact Kd.R_mono HO322.out (fun _ hk => hk.2)⟩, ⟨by (with_reducible repeat (first | apply Kd.R_alloc | apply Kd.R_drewN | apply Kd.R_drew)); exact Kd.R_mono HO326.out (fun _ hk => hk.2)⟩, ⟨by (with_reducible repeat (first | refine blk_drewN ?_ _ | refine blk_drew ?_ | refine blk_alloc ?_ _)); exact BK316.out⟩, ⟨by (with_reducible repeat (first | refine blk_drewN ?_ _ | refine blk_drew ?_ | refine blk_alloc ?_ _)); exact BK317.out⟩, ⟨by repeat (first | (with_reducible first | exact HB.out | apply below_alloc | apply pw_below_drewN | apply below_drew1 | refine below_set ?_ GE316.out | refine below_set ?_ GE317.out) | exact HB.out)⟩⟩
              · rw [if_neg c31] at H
                have c31b0 : (t323 == 0) = false := beq_eq_false_iff_ne.mpr c31
                (try (have zq_ : t328 = true := by simpa [c31b0] using c27b0))
                (try (have zq_ : t328 = false := by simpa [c31b0] using c27b0))
                have c31b1 : (t323 != 0) = true := bne_iff_ne.mpr c31
                by_cases c35 : t323 = 1
                · rw [if_pos c35] at H
                  have c35b0 : (t323 == 1) = true := beq_iff_eq.mpr c35
                  have c35b1 : (t323 != 1) = false := bne_eq_false_iff_eq.mpr c35
                  clear c35
                  have H' := Aside0.mk H
                  clear H
                  have hnb36 := NB316_317.out
                  have hnc36 := NB317_316.out
                  have hcz37_0 : w25.cell? ⟨gb316, 0, none⟩ = some (.int .i64 a0_0) := (blk_cell BK316.out 0).trans rfl
                  have hcz37_1 : w25.cell? ⟨gb316, 1, none⟩ = some (.int .u64 a0_1) := (blk_cell BK316.out 1).trans rfl
                  have hcz37_2 : w25.cell? ⟨gb316, 2, none⟩ = some (.int .u64 a0_2) := (blk_cell BK316.out 2).trans rfl
                  have hcz37_3 : w25.cell? ⟨gb316, 3, none⟩ = some (.slice A0_3 l0_3.length c0_3) := (blk_cell BK316.out 3).trans rfl
                  have hfz37_0 := blk_frozen BK316.out 0
                  have hfz37_1 := blk_frozen BK316.out 1
                  have hfz37_2 := blk_frozen BK316.out 2
                  have hfz37_3 := blk_frozen BK316.out 3
                  go_wp2_with (first | ((with_reducible refine gate_callee (f := 18) rfl ?_); refine goesL_ (some 39) rfl rfl Try.func18 (by kernel_rfl) rfl #[.agg #[.int .i64 a0_0, .int .u64 a0_1, .int .u64 a0_2, .slice A0_3 l0_3.length c0_3]] rfl (by (try simp only [List.map_toArray, List.map_cons, List.map_nil]); first | done | rfl | (simp only [List.length_drop, List.length_take]; rfl)) ?_; (with_reducible refine (rec_May.calls a0_0 a0_1 a0_2 _ _ l0_3 t328 _ ?side1 ?side2 A26.out).mono ?_); (case side1 => repeat (first | exact (Kd.C_below HR0_3.out HB.out) | (with_reducible refine Kd.C_alloc ?_ _) | (with_reducible refine Kd.C_drewN ?_ _) | (with_reducible refine Kd.C_drew ?_))); (case side2 => exact HC0_3.out); rintro e w38 ⟨rfl, hb⟩; refine ⟨_, rfl, ?_⟩; have n0_ := Aside0.mk (Kd.R_below (by (with_reducible repeat (first | apply Kd.R_alloc | apply Kd.R_drewN | apply Kd.R_drew)); exact HO322.out) hb); have n1_ := Aside0.mk (Kd.R_below (by (with_reducible repeat (first | apply Kd.R_alloc | apply Kd.R_drewN | apply Kd.R_drew)); exact HO326.out) hb); have n2_ := Aside0.mk (blk_below (g := gb316) (o := .cells #[.int .i64 a0_0, .int .u64 a0_1, .int .u64 a0_2, .slice A0_3 l0_3.length c0_3] 25 (0, 0)) (by (with_reducible repeat (first | refine blk_drewN ?_ _ | refine blk_drew ?_ | refine blk_alloc ?_ _)); exact BK316.out) hb); have n3_ := Aside0.mk (blk_below (g := gb317) (o := .cells #[.int .i64 a1_0, .int .u64 a1_1, .int .u64 a1_2, .slice A1_3 l1_3.length c1_3] 25 (0, 0)) (by (with_reducible repeat (first | refine blk_drewN ?_ _ | refine blk_drew ?_ | refine blk_alloc ?_ _)); exact BK317.out) hb); have n4_ := Aside0.mk (below_step (by repeat (first | (with_reducible first | exact HB.out | apply below_alloc | apply pw_below_drewN | apply below_drew1 | refine below_set ?_ GE316.out | refine below_set ?_ GE317.out) | exact HB.out)) hb); clear HO322; clear HO326; clear BK316; clear BK317; clear HB; have HO322 := n0_; have HO326 := n1_; have BK316 := n2_; have BK317 := n3_; have HB := n4_; clear n0_ n1_ n2_ n3_ n4_; (try clear hb); (try clear hb2); (try clear hk); (try clear hi); obtain ⟨Ao39, co39, eo39⟩ := Kd.R_slice HO322.out; subst eo39))
                  go_meet
                  case rel => exact ⟨_, (((t320.length : Int) != 0)), (by first | rfl | (simp; done) | (simp [*]; done)), H', ⟨by have := HJ4.out; first | omega | exact Nat.le_refl _⟩, ⟨by (with_reducible repeat (first | apply Kd.R_alloc | apply Kd.R_drewN | apply Kd.R_drew)); exact Kd.R_mono HO322.out (fun _ hk => hk.2)⟩, ⟨by (with_reducible repeat (first | apply Kd.R_alloc | apply Kd.R_drewN | apply Kd.R_drew)); exact Kd.R_mono HO326.out (fun _ hk => hk.2)⟩, ⟨by (with_reducible repeat (first | refine blk_drewN ?_ _ | refine blk_drew ?_ | refine blk_alloc ?_ _)); exact BK316.out⟩, ⟨by (with_reducible repeat (first | refine blk_drewN ?_ _ | refine blk_drew ?_ | refine blk_alloc ?_ _)); exact BK317.out⟩, ⟨by repeat (first | (with_reducible first | exact HB.out | apply below_alloc | apply pw_below_drewN | apply below_drew1 | refine below_set ?_ GE316.out | refine below_set ?_ GE317.out) | exact HB.out)⟩⟩
                · rw [if_neg c35] at H
                  have c35b0 : (t323 == 1) = false := beq_eq_false_iff_ne.mpr c35
                  have c35b1 : (t323 != 1) = true := bne_iff_ne.mpr c35
                  have H' := Aside0.mk H
                  clear H
                  have hnb40 := NB316_317.out
                  have hnc40 := NB317_316.out
                  have hcz41_0 : w25.cell? ⟨gb316, 0, none⟩ = some (.int .i64 a0_0) := (blk_cell BK316.out 0).trans rfl
                  have hcz41_1 : w25.cell? ⟨gb316, 1, none⟩ = some (.int .u64 a0_1) := (blk_cell BK316.out 1).trans rfl
                  have hcz41_2 : w25.cell? ⟨gb316, 2, none⟩ = some (.int .u64 a0_2) := (blk_cell BK316.out 2).trans rfl
                  have hcz41_3 : w25.cell? ⟨gb316, 3, none⟩ = some (.slice A0_3 l0_3.length c0_3) := (blk_cell BK316.out 3).trans rfl
                  have hfz41_0 := blk_frozen BK316.out 0
                  have hfz41_1 := blk_frozen BK316.out 1
                  have hfz41_2 := blk_frozen BK316.out 2
                  have hfz41_3 := blk_frozen BK316.out 3
                  go_wp2_with (first | ((with_reducible refine gate_callee (f := 18) rfl ?_); refine goesL_ (some 39) rfl rfl Try.func18 (by kernel_rfl) rfl #[.agg #[.int .i64 a0_0, .int .u64 a0_1, .int .u64 a0_2, .slice A0_3 l0_3.length c0_3]] rfl (by (try simp only [List.map_toArray, List.map_cons, List.map_nil]); first | done | rfl | (simp only [List.length_drop, List.length_take]; rfl)) ?_; (with_reducible refine (rec_May.calls a0_0 a0_1 a0_2 _ _ l0_3 t328 _ ?side1 ?side2 A26.out).mono ?_); (case side1 => repeat (first | exact (Kd.C_below HR0_3.out HB.out) | (with_reducible refine Kd.C_alloc ?_ _) | (with_reducible refine Kd.C_drewN ?_ _) | (with_reducible refine Kd.C_drew ?_))); (case side2 => exact HC0_3.out); rintro e w42 ⟨rfl, hb⟩; refine ⟨_, rfl, ?_⟩; have n0_ := Aside0.mk (Kd.R_below (by (with_reducible repeat (first | apply Kd.R_alloc | apply Kd.R_drewN | apply Kd.R_drew)); exact HO322.out) hb); have n1_ := Aside0.mk (Kd.R_below (by (with_reducible repeat (first | apply Kd.R_alloc | apply Kd.R_drewN | apply Kd.R_drew)); exact HO326.out) hb); have n2_ := Aside0.mk (blk_below (g := gb316) (o := .cells #[.int .i64 a0_0, .int .u64 a0_1, .int .u64 a0_2, .slice A0_3 l0_3.length c0_3] 25 (0, 0)) (by (with_reducible repeat (first | refine blk_drewN ?_ _ | refine blk_drew ?_ | refine blk_alloc ?_ _)); exact BK316.out) hb); have n3_ := Aside0.mk (blk_below (g := gb317) (o := .cells #[.int .i64 a1_0, .int .u64 a1_1, .int .u64 a1_2, .slice A1_3 l1_3.length c1_3] 25 (0, 0)) (by (with_reducible repeat (first | refine blk_drewN ?_ _ | refine blk_drew ?_ | refine blk_alloc ?_ _)); exact BK317.out) hb); have n4_ := Aside0.mk (below_step (by repeat (first | (with_reducible first | exact HB.out | apply below_alloc | apply pw_below_drewN | apply below_drew1 | refine below_set ?_ GE316.out | refine below_set ?_ GE317.out) | exact HB.out)) hb); clear HO322; clear HO326; clear BK316; clear BK317; clear HB; have HO322 := n0_; have HO326 := n1_; have BK316 := n2_; have BK317 := n3_; have HB := n4_; clear n0_ n1_ n2_ n3_ n4_; (try clear hb); (try clear hb2); (try clear hk); (try clear hi)))
                  go_meet
                  case rel => exact ⟨_, (true), (by first | rfl | (simp; done) | (simp [*]; done)), H', ⟨by have := HJ4.out; first | omega | exact Nat.le_refl _⟩, ⟨by (with_reducible repeat (first | apply Kd.R_alloc | apply Kd.R_drewN | apply Kd.R_drew)); exact Kd.R_mono HO322.out (fun _ hk => hk.2)⟩, ⟨by (with_reducible repeat (first | apply Kd.R_alloc | apply Kd.R_drewN | apply Kd.R_drew)); exact Kd.R_mono HO326.out (fun _ hk => hk.2)⟩, ⟨by (with_reducible repeat (first | refine blk_drewN ?_ _ | refine blk_drew ?_ | refine blk_alloc ?_ _)); exact BK316.out⟩, ⟨by (with_reducible repeat (first | refine blk_drewN ?_ _ | refine blk_drew ?_ | refine blk_alloc ?_ _)); exact BK317.out⟩, ⟨by repeat (first | (with_reducible first | exact HB.out | apply below_alloc | apply pw_below_drewN | apply below_drew1 | refine below_set ?_ GE316.out | refine below_set ?_ GE317.out) | exact HB.out)⟩⟩
          case rest =>
            clear HC20
            try clear c1
            try clear c2
            try clear p2
            try clear c3
            try clear c4
            try clear c5
            try clear c9
            try clear c9b0
            try clear c9b1
            try clear c10
            try clear c11
            try clear c12
            try clear c15
            try clear c18
            try clear c21
            try clear c27
            try clear c27b0
            try clear c27b1
            try clear c27b2
            try clear c28
            try clear c31
            try clear c31b0
            try clear c31b1
            try clear c32
            try clear c35
            try clear c35b0
            try clear c35b1
            try clear c36
            try clear c40
            try clear hcz11_0
            try clear hcz11_1
            try clear hcz11_2
            try clear hcz11_3
            try clear hcz13_0
            try clear hcz13_1
            try clear hcz13_2
            try clear hcz13_3
            try clear hcz14_0
            try clear hcz14_1
            try clear hcz14_2
            try clear hcz14_3
            try clear hcz22_0
            try clear hcz22_1
            try clear hcz22_2
            try clear hcz22_3
            try clear hcz24_0
            try clear hcz24_1
            try clear hcz24_2
            try clear hcz24_3
            try clear hcz29_0
            try clear hcz29_1
            try clear hcz29_2
            try clear hcz29_3
            try clear hcz33_0
            try clear hcz33_1
            try clear hcz33_2
            try clear hcz33_3
            try clear hcz37_0
            try clear hcz37_1
            try clear hcz37_2
            try clear hcz37_3
            try clear hcz41_0
            try clear hcz41_1
            try clear hcz41_2
            try clear hcz41_3
            try clear hfz11_0
            try clear hfz11_1
            try clear hfz11_2
            try clear hfz11_3
            try clear hfz13_0
            try clear hfz13_1
            try clear hfz13_2
            try clear hfz13_3
            try clear hfz14_0
            try clear hfz14_1
            try clear hfz14_2
            try clear hfz14_3
            try clear hfz22_0
            try clear hfz22_1
            try clear hfz22_2
            try clear hfz22_3
            try clear hfz24_0
            try clear hfz24_1
            try clear hfz24_2
            try clear hfz24_3
            try clear hfz29_0
            try clear hfz29_1
            try clear hfz29_2
            try clear hfz29_3
            try clear hfz33_0
            try clear hfz33_1
            try clear hfz33_2
            try clear hfz33_3
            try clear hfz37_0
            try clear hfz37_1
            try clear hfz37_2
            try clear hfz37_3
            try clear hfz41_0
            try clear hfz41_1
            try clear hfz41_2
            try clear hfz41_3
            try clear p2
            obtain ⟨kq, x53_19, rfl, HA, HJ19, HO_5, HO_7, BK316, BK317, HB⟩ := hcut
            cases kq with
            | zero => exact absurd HA.out (by simp [tiklaw15_RecApart.j1])
            | succ kj19 =>
              have H := HA.out
              clear HA
              simp only [tiklaw15_RecApart.j1] at H
              by_cases c43 : x53_19 = true
              · subst c43
                have H1 : (some false) = some r := by rw [if_pos rfl] at H; exact H
                clear H
                have H := H1
                clear H1
                exact absurd ((Option.some.inj H).trans hr_.out) (by simp)
              · replace c43 := Bool.eq_false_iff.mpr c43
                subst c43
                have H1 : (if t323 = 0 then (tiklaw15_RecApart.j2 kj19 t320 t324 (t327 != 0) a0_0 a0_1 a0_2 l0_3 a1_0 a1_1 a1_2 l1_3) else (tiklaw15_RecApart.j2 kj19 t320 t324 true a0_0 a0_1 a0_2 l0_3 a1_0 a1_1 a1_2 l1_3)) = some r := by rw [if_neg (show ¬ (false = true) by decide)] at H; exact H
                clear H
                have H := H1
                clear H1
                have HC44 := Aside0.mk H
                clear H
                go_upto_region 9 with (fail)
                go_cut [59] (fun v59 wc => ∃ (kq : Nat) (x59_43 : Bool), v59 = .bool x59_43 ∧ Aside0 (tiklaw15_RecApart.j2 kq t320 t324 x59_43 a0_0 a0_1 a0_2 l0_3 a1_0 a1_1 a1_2 l1_3 = some r) ∧ Aside0 (kq ≤ kj19) ∧ Aside0 (Kd.R (Kd.int .u8) 5 wc w.heap.size (fun k_ => some k_ ≠ (v325 : Value).ownBlock) v321 t320) ∧ Aside0 (Kd.R (Kd.int .u8) 5 wc w.heap.size (fun k_ => some k_ ≠ (v321 : Value).ownBlock) v325 t324) ∧ Aside0 (wc.heap[gb316]? = some (.cells #[.int .i64 a0_0, .int .u64 a0_1, .int .u64 a0_2, (.slice A0_3 l0_3.length c0_3)] 25 (0, 0))) ∧ Aside0 (wc.heap[gb317]? = some (.cells #[.int .i64 a1_0, .int .u64 a1_1, .int .u64 a1_2, (.slice A1_3 l1_3.length c1_3)] 25 (0, 0))) ∧ Aside0 (Below w.heap.size w wc))
                case first =>
                  have H := HC44.out
                  clear HC44
                  by_cases c45 : t323 = 0
                  · rw [if_pos c45] at H
                    have c45b0 : (t323 == 0) = true := beq_iff_eq.mpr c45
                    (try (have zq_ : t328 = true := by simpa [c45b0] using c27b0))
                    (try (have zq_ : t328 = false := by simpa [c45b0] using c27b0))
                    have c45b1 : (t323 != 0) = false := bne_eq_false_iff_eq.mpr c45
                    clear c45
                    (first | rw [c45b0] | (simp only [i64_w, i32_w]; rw [c45b0]) | skip)
                    have H' := Aside0.mk H
                    clear H
                    go_wp2
                    go_meet
                    case rel => exact ⟨_, ((t327 != 0)), (by first | rfl | (simp; done) | (simp [*]; done)), H', ⟨by have := HJ4.out; have := HJ19.out; first | omega | exact Nat.le_refl _⟩, ⟨by (with_reducible repeat (first | apply Kd.R_alloc | apply Kd.R_drewN | apply Kd.R_drew)); exact HO_5.out⟩, ⟨by (with_reducible repeat (first | apply Kd.R_alloc | apply Kd.R_drewN | apply Kd.R_drew)); exact HO_7.out⟩, ⟨by (with_reducible repeat (first | refine blk_drewN ?_ _ | refine blk_drew ?_ | refine blk_alloc ?_ _)); exact BK316.out⟩, ⟨by (with_reducible repeat (first | refine blk_drewN ?_ _ | refine blk_drew ?_ | refine blk_alloc ?_ _)); exact BK317.out⟩, ⟨by repeat (first | (with_reducible first | exact HB.out | apply below_alloc | apply pw_below_drewN | apply below_drew1 | refine below_set ?_ GE316.out | refine below_set ?_ GE317.out) | exact HB.out)⟩⟩
                  · rw [if_neg c45] at H
                    have c45b0 : (t323 == 0) = false := beq_eq_false_iff_ne.mpr c45
                    (try (have zq_ : t328 = true := by simpa [c45b0] using c27b0))
                    (try (have zq_ : t328 = false := by simpa [c45b0] using c27b0))
                    have c45b1 : (t323 != 0) = true := bne_iff_ne.mpr c45
                    (first | rw [c45b0] | (simp only [i64_w, i32_w]; rw [c45b0]) | skip)
                    have H' := Aside0.mk H
                    clear H
                    go_wp2
                    go_meet
                    case rel => exact ⟨_, (true), (by first | rfl | (simp; done) | (simp [*]; done)), H', ⟨by have := HJ4.out; have := HJ19.out; first | omega | exact Nat.le_refl _⟩, ⟨by (with_reducible repeat (first | apply Kd.R_alloc | apply Kd.R_drewN | apply Kd.R_drew)); exact HO_5.out⟩, ⟨by (with_reducible repeat (first | apply Kd.R_alloc | apply Kd.R_drewN | apply Kd.R_drew)); exact HO_7.out⟩, ⟨by (with_reducible repeat (first | refine blk_drewN ?_ _ | refine blk_drew ?_ | refine blk_alloc ?_ _)); exact BK316.out⟩, ⟨by (with_reducible repeat (first | refine blk_drewN ?_ _ | refine blk_drew ?_ | refine blk_alloc ?_ _)); exact BK317.out⟩, ⟨by repeat (first | (with_reducible first | exact HB.out | apply below_alloc | apply pw_below_drewN | apply below_drew1 | refine below_set ?_ GE316.out | refine below_set ?_ GE317.out) | exact HB.out)⟩⟩
                case rest =>
                  clear HC44
                  try clear c1
                  try clear c2
                  try clear p2
                  try clear c3
                  try clear c4
                  try clear c5
                  try clear c9
                  try clear c9b0
                  try clear c9b1
                  try clear c10
                  try clear c11
                  try clear c12
                  try clear c15
                  try clear c18
                  try clear c21
                  try clear c27
                  try clear c27b0
                  try clear c27b1
                  try clear c27b2
                  try clear c28
                  try clear c31
                  try clear c31b0
                  try clear c31b1
                  try clear c32
                  try clear c35
                  try clear c35b0
                  try clear c35b1
                  try clear c36
                  try clear c40
                  try clear c43
                  try clear c45
                  try clear c45b0
                  try clear c45b1
                  try clear hcz11_0
                  try clear hcz11_1
                  try clear hcz11_2
                  try clear hcz11_3
                  try clear hcz13_0
                  try clear hcz13_1
                  try clear hcz13_2
                  try clear hcz13_3
                  try clear hcz14_0
                  try clear hcz14_1
                  try clear hcz14_2
                  try clear hcz14_3
                  try clear hcz22_0
                  try clear hcz22_1
                  try clear hcz22_2
                  try clear hcz22_3
                  try clear hcz24_0
                  try clear hcz24_1
                  try clear hcz24_2
                  try clear hcz24_3
                  try clear hcz29_0
                  try clear hcz29_1
                  try clear hcz29_2
                  try clear hcz29_3
                  try clear hcz33_0
                  try clear hcz33_1
                  try clear hcz33_2
                  try clear hcz33_3
                  try clear hcz37_0
                  try clear hcz37_1
                  try clear hcz37_2
                  try clear hcz37_3
                  try clear hcz41_0
                  try clear hcz41_1
                  try clear hcz41_2
                  try clear hcz41_3
                  try clear hfz11_0
                  try clear hfz11_1
                  try clear hfz11_2
                  try clear hfz11_3
                  try clear hfz13_0
                  try clear hfz13_1
                  try clear hfz13_2
                  try clear hfz13_3
                  try clear hfz14_0
                  try clear hfz14_1
                  try clear hfz14_2
                  try clear hfz14_3
                  try clear hfz22_0
                  try clear hfz22_1
                  try clear hfz22_2
                  try clear hfz22_3
                  try clear hfz24_0
                  try clear hfz24_1
                  try clear hfz24_2
                  try clear hfz24_3
                  try clear hfz29_0
                  try clear hfz29_1
                  try clear hfz29_2
                  try clear hfz29_3
                  try clear hfz33_0
                  try clear hfz33_1
                  try clear hfz33_2
                  try clear hfz33_3
                  try clear hfz37_0
                  try clear hfz37_1
                  try clear hfz37_2
                  try clear hfz37_3
                  try clear hfz41_0
                  try clear hfz41_1
                  try clear hfz41_2
                  try clear hfz41_3
                  try clear p2
                  obtain ⟨kq, x59_43, rfl, HA, HJ43, HO_5, HO_7, BK316, BK317, HB⟩ := hcut
                  cases kq with
                  | zero => exact absurd HA.out (by simp [tiklaw15_RecApart.j2])
                  | succ kj43 =>
                    have H := HA.out
                    clear HA
                    simp only [tiklaw15_RecApart.j2] at H
                    by_cases c46 : x59_43 = true
                    · subst c46
                      have H1 : ((tiklaw15_first.f kj43).bind fun t329 => (some t329)) = some r := by rw [if_pos rfl] at H; exact H
                      clear H
                      have H := H1
                      clear H1
                      replace H := Option.bind_eq_some_iff.mp H
                      obtain ⟨t329, A470, H⟩ := H
                      replace H : (some t329) = some r := H
                      have A47 := Aside0.mk A470
                      clear A470
                      obtain rfl := Option.some.inj H
                      go_wp2_with (first | ((with_reducible refine gate_callee (f := 10) rfl ?_); refine goesL_ (some 60) rfl rfl Try.func10 (by kernel_rfl) rfl #[] rfl (by (try simp only [List.map_toArray, List.map_cons, List.map_nil]); first | done | rfl | (simp only [List.length_drop, List.length_take]; rfl)) ?_; (with_reducible refine (tiklaw15_first.calls kj43  t329 _ A47.out).mono ?_); rintro e w48 ⟨rfl, hb⟩; refine ⟨_, rfl, ?_⟩; have n0_ := Aside0.mk (Kd.R_below (by (with_reducible repeat (first | apply Kd.R_alloc | apply Kd.R_drewN | apply Kd.R_drew)); exact HO_5.out) hb); have n1_ := Aside0.mk (Kd.R_below (by (with_reducible repeat (first | apply Kd.R_alloc | apply Kd.R_drewN | apply Kd.R_drew)); exact HO_7.out) hb); have n2_ := Aside0.mk (blk_below (g := gb316) (o := .cells #[.int .i64 a0_0, .int .u64 a0_1, .int .u64 a0_2, .slice A0_3 l0_3.length c0_3] 25 (0, 0)) (by (with_reducible repeat (first | refine blk_drewN ?_ _ | refine blk_drew ?_ | refine blk_alloc ?_ _)); exact BK316.out) hb); have n3_ := Aside0.mk (blk_below (g := gb317) (o := .cells #[.int .i64 a1_0, .int .u64 a1_1, .int .u64 a1_2, .slice A1_3 l1_3.length c1_3] 25 (0, 0)) (by (with_reducible repeat (first | refine blk_drewN ?_ _ | refine blk_drew ?_ | refine blk_alloc ?_ _)); exact BK317.out) hb); have n4_ := Aside0.mk (below_step (by repeat (first | (with_reducible first | exact HB.out | apply below_alloc | apply pw_below_drewN | apply below_drew1 | refine below_set ?_ GE316.out | refine below_set ?_ GE317.out) | exact HB.out)) hb); clear HO_5; clear HO_7; clear BK316; clear BK317; clear HB; have HO_5 := n0_; have HO_7 := n1_; have BK316 := n2_; have BK317 := n3_; have HB := n4_; clear n0_ n1_ n2_ n3_ n4_; (try clear hb); (try clear hb2); (try clear hk); (try clear hi)))
                      go_ret
                      exact ⟨by first | rfl | (simp [errW_none, errW_some] <;> rfl) | (simp [*, errW_none, errW_some] <;> rfl), by repeat (first | (with_reducible first | exact HB.out | apply below_alloc | apply pw_below_drewN | apply below_drew1 | refine below_set ?_ GE316.out | refine below_set ?_ GE317.out) | exact HB.out)⟩
                    · replace c46 := Bool.eq_false_iff.mpr c46
                      subst c46
                      have H1 : (if (t320.length : Int) < (t324.length : Int) then (if 0 ≤ (t320.length : Int) then (if (t320.length : Int) ≤ (t324.length : Int) then ((tikref_Bytes.f (t324.take ((t320.length : Int) : Int).toNat) t320).bind fun t334 => (if t334 = true then (tiklaw15_RecApart.j3 kj43 t320 t324 true a0_0 a0_1 a0_2 l0_3 a1_0 a1_1 a1_2 l1_3) else (if (t324.length : Int) < (t320.length : Int) then (if 0 ≤ (t324.length : Int) then (if (t324.length : Int) ≤ (t320.length : Int) then ((tikref_Bytes.f (t320.take ((t324.length : Int) : Int).toNat) t324).bind fun t339 => (tiklaw15_RecApart.j3 kj43 t320 t324 t339 a0_0 a0_1 a0_2 l0_3 a1_0 a1_1 a1_2 l1_3)) else (none)) else (none)) else (tiklaw15_RecApart.j3 kj43 t320 t324 false a0_0 a0_1 a0_2 l0_3 a1_0 a1_1 a1_2 l1_3)))) else (none)) else (none)) else (if (t324.length : Int) < (t320.length : Int) then (if 0 ≤ (t324.length : Int) then (if (t324.length : Int) ≤ (t320.length : Int) then ((tikref_Bytes.f (t320.take ((t324.length : Int) : Int).toNat) t324).bind fun t344 => (tiklaw15_RecApart.j3 kj43 t320 t324 t344 a0_0 a0_1 a0_2 l0_3 a1_0 a1_1 a1_2 l1_3)) else (none)) else (none)) else (tiklaw15_RecApart.j3 kj43 t320 t324 false a0_0 a0_1 a0_2 l0_3 a1_0 a1_1 a1_2 l1_3))) = some r := by rw [if_neg (show ¬ (false = true) by decide)] at H; exact H
                      clear H
                      have H := H1
                      clear H1
                      have HC49 := Aside0.mk H
                      clear H
                      go_upto_region 11 with (fail)
                      go_cut [9] (fun v9 wc => ∃ (kq : Nat) (x9_48 : Bool), v9 = .bool x9_48 ∧ Aside0 (tiklaw15_RecApart.j3 kq t320 t324 x9_48 a0_0 a0_1 a0_2 l0_3 a1_0 a1_1 a1_2 l1_3 = some r) ∧ Aside0 (kq ≤ kj43) ∧ Aside0 (Kd.R (Kd.int .u8) 5 wc w.heap.size (fun k_ => some k_ ≠ (v325 : Value).ownBlock) v321 t320) ∧ Aside0 (Kd.R (Kd.int .u8) 5 wc w.heap.size (fun k_ => some k_ ≠ (v321 : Value).ownBlock) v325 t324) ∧ Aside0 (wc.heap[gb316]? = some (.cells #[.int .i64 a0_0, .int .u64 a0_1, .int .u64 a0_2, (.slice A0_3 l0_3.length c0_3)] 25 (0, 0))) ∧ Aside0 (wc.heap[gb317]? = some (.cells #[.int .i64 a1_0, .int .u64 a1_1, .int .u64 a1_2, (.slice A1_3 l1_3.length c1_3)] 25 (0, 0))) ∧ Aside0 (Below w.heap.size w wc))
                      case first =>
                        have H := HC49.out
                        clear HC49
                        by_cases c50 : (t320.length : Int) < (t324.length : Int)
                        · rw [if_pos c50] at H
                          have c50b0 : decide ((t320.length : Int) < (t324.length : Int)) = true := decide_eq_true c50
                          have c50b1 : decide (t320.length < t324.length) = true := decide_eq_true (Int.ofNat_lt.mp c50)
                          clear c50
                          (first | rw [c50b0] | (simp only [i64_w, i32_w]; rw [c50b0]) | skip)
                          by_cases c51 : 0 ≤ (t320.length : Int)
                          · rw [if_pos c51] at H
                            have c51b0 := eq_true c51
                            have c51b1 : decide (0 ≤ (t320.length : Int)) = true := decide_eq_true c51
                            clear c51
                            by_cases c52 : (t320.length : Int) ≤ (t324.length : Int)
                            · rw [if_pos c52] at H
                              have c52b0 := eq_true c52
                              have c52b1 : decide ((t320.length : Int) ≤ (t324.length : Int)) = true := decide_eq_true c52
                              clear c52
                              obtain ⟨y330, hy330⟩ : ∃ y_ : List Int, y_ = (t324.take ((t320.length : Int) : Int).toNat) := ⟨_, rfl⟩
                              replace H : ((tikref_Bytes.f y330 t320).bind fun t334 => (if t334 = true then (tiklaw15_RecApart.j3 kj43 t320 t324 true a0_0 a0_1 a0_2 l0_3 a1_0 a1_1 a1_2 l1_3) else (if (t324.length : Int) < (t320.length : Int) then (if 0 ≤ (t324.length : Int) then (if (t324.length : Int) ≤ (t320.length : Int) then ((tikref_Bytes.f (t320.take ((t324.length : Int) : Int).toNat) t324).bind fun t339 => (tiklaw15_RecApart.j3 kj43 t320 t324 t339 a0_0 a0_1 a0_2 l0_3 a1_0 a1_1 a1_2 l1_3)) else (none)) else (none)) else (tiklaw15_RecApart.j3 kj43 t320 t324 false a0_0 a0_1 a0_2 l0_3 a1_0 a1_1 a1_2 l1_3)))) = some r := by first | (rw [hy330]; with_reducible exact H) | (have H2_ := (Option.bind_some _ _).symm.trans H; rw [hy330]; with_reducible exact H2_) | (have H2_ := (Option.bind_some _ _).symm.trans H; with_reducible exact H2_) | with_reducible exact H | (rw [hy330]; exact H) | exact H
                              have Ny330 := Aside0.mk hy330
                              clear hy330
                              replace H := Option.bind_eq_some_iff.mp H
                              obtain ⟨t334, A530, H⟩ := H
                              replace H : (if t334 = true then (tiklaw15_RecApart.j3 kj43 t320 t324 true a0_0 a0_1 a0_2 l0_3 a1_0 a1_1 a1_2 l1_3) else (if (t324.length : Int) < (t320.length : Int) then (if 0 ≤ (t324.length : Int) then (if (t324.length : Int) ≤ (t320.length : Int) then ((tikref_Bytes.f (t320.take ((t324.length : Int) : Int).toNat) t324).bind fun t339 => (tiklaw15_RecApart.j3 kj43 t320 t324 t339 a0_0 a0_1 a0_2 l0_3 a1_0 a1_1 a1_2 l1_3)) else (none)) else (none)) else (tiklaw15_RecApart.j3 kj43 t320 t324 false a0_0 a0_1 a0_2 l0_3 a1_0 a1_1 a1_2 l1_3))) = some r := H
                              have A53 := Aside0.mk A530
                              clear A530
                              by_cases c54 : t334 = true
                              · subst c54
                                have H1 : (tiklaw15_RecApart.j3 kj43 t320 t324 true a0_0 a0_1 a0_2 l0_3 a1_0 a1_1 a1_2 l1_3) = some r := by rw [if_pos rfl] at H; exact H
                                clear H
                                have H := H1
                                clear H1
                                have H' := Aside0.mk H
                                clear H
                                obtain ⟨Ao55, co55, eo55⟩ := Kd.R_slice HO_5.out
                                subst eo55
                                obtain ⟨Ao56, co56, eo56⟩ := Kd.R_slice HO_7.out
                                subst eo56
                                have q57 : ((t320.length : Int) : Int) ≤ ((t324.length : Int) : Int) := of_decide_eq_true (by first | (with_reducible assumption) | assumption)
                                obtain ⟨i057, hi057, _, hsz57, _⟩ := info_parts info5
                                have hroom57 : t324.length ≤ co56 := (Kd.R_reads' HO_7.out).2.1
                                have hC57 : Kd.C (Kd.int .u8) _ Ao56 t324.length t324 := (Kd.R_reads' HO_7.out).2.2
                                have hcut57 := cut_to (P := Try.prog) 23 5 .i64 Try.underlying23 hi057 Ao56 t324.length co56 (t320.length : Int) (of_decide_eq_true (by first | (with_reducible assumption) | assumption)) q57 hroom57
                                have hr57 := Kd.C_take (m := ((t320.length : Int) : Int).toNat) hC57 (by omega)
                                have hy57 : y330.length = ((t320.length : Int) : Int).toNat := (by rw [Ny330.out, List.length_take]; omega)
                                rw [← Ny330.out] at hr57
                                rw [← hy57] at hcut57
                                have HR333 := Aside0.mk hr57
                                have HC333 := Aside0.mk (show y330.length ≤ co56 from by omega)
                                clear hr57 hC57 hroom57 hi057 hsz57
                                have KY57 := Aside0.mk hy57
                                clear hy57
                                have KL57 := Aside0.mk (show ((t320.length : Int) : Int).toNat ≤ t324.length from by omega)
                                replace q57 := eq_true q57
                                go_wp2_with (first | (go_at_call 16; (with_reducible refine (tikref_Bytes.calls _ _ y330 _ _ t320 true _ ?side1 ?side2 ?side3 ?side4 A53.out).mono ?_); (case side1 => repeat (first | exact (by repeat (first | (with_reducible exact HR333.out) | (with_reducible refine Kd.C_alloc ?_ _) | (with_reducible refine Kd.C_drewN ?_ _) | (with_reducible refine Kd.C_drew ?_) | exact HR333.out)) | (with_reducible refine Kd.C_alloc ?_ _) | (with_reducible refine Kd.C_drewN ?_ _) | (with_reducible refine Kd.C_drew ?_))); (case side2 => exact HC333.out); (case side3 => repeat (first | exact (Kd.R_reads' HO_5.out).2.2 | (with_reducible refine Kd.C_alloc ?_ _) | (with_reducible refine Kd.C_drewN ?_ _) | (with_reducible refine Kd.C_drew ?_))); (case side4 => exact (Kd.R_reads' HO_5.out).2.1); rintro e w' ⟨rfl, ⟨nd, rfl⟩⟩))
                                go_meet
                                case rel => exact ⟨_, (true), (by first | rfl | (simp; done) | (simp [*]; done)), H', ⟨by have := HJ4.out; have := HJ19.out; have := HJ43.out; first | omega | exact Nat.le_refl _⟩, ⟨by (with_reducible repeat (first | apply Kd.R_alloc | apply Kd.R_drewN | apply Kd.R_drew)); exact HO_5.out⟩, ⟨by (with_reducible repeat (first | apply Kd.R_alloc | apply Kd.R_drewN | apply Kd.R_drew)); exact HO_7.out⟩, ⟨by (with_reducible repeat (first | refine blk_drewN ?_ _ | refine blk_drew ?_ | refine blk_alloc ?_ _)); exact BK316.out⟩, ⟨by (with_reducible repeat (first | refine blk_drewN ?_ _ | refine blk_drew ?_ | refine blk_alloc ?_ _)); exact BK317.out⟩, ⟨by repeat (first | (with_reducible first | exact HB.out | apply below_alloc | apply pw_below_drewN | apply below_drew1 | refine below_set ?_ GE316.out | refine below_set ?_ GE317.out) | exact HB.out)⟩⟩
                              · replace c54 := Bool.eq_false_iff.mpr c54
                                subst c54
                                have H1 : (if (t324.length : Int) < (t320.length : Int) then (if 0 ≤ (t324.length : Int) then (if (t324.length : Int) ≤ (t320.length : Int) then ((tikref_Bytes.f (t320.take ((t324.length : Int) : Int).toNat) t324).bind fun t339 => (tiklaw15_RecApart.j3 kj43 t320 t324 t339 a0_0 a0_1 a0_2 l0_3 a1_0 a1_1 a1_2 l1_3)) else (none)) else (none)) else (tiklaw15_RecApart.j3 kj43 t320 t324 false a0_0 a0_1 a0_2 l0_3 a1_0 a1_1 a1_2 l1_3)) = some r := by rw [if_neg (show ¬ (false = true) by decide)] at H; exact H
                                clear H
                                have H := H1
                                clear H1
                                by_cases c58 : (t324.length : Int) < (t320.length : Int)
                                · rw [if_pos c58] at H
                                  have c58b0 : decide ((t324.length : Int) < (t320.length : Int)) = true := decide_eq_true c58
                                  have c58b1 : decide (t324.length < t320.length) = true := decide_eq_true (Int.ofNat_lt.mp c58)
                                  clear c58
                                  by_cases c59 : 0 ≤ (t324.length : Int)
                                  · rw [if_pos c59] at H
                                    have c59b0 := eq_true c59
                                    have c59b1 : decide (0 ≤ (t324.length : Int)) = true := decide_eq_true c59
                                    clear c59
                                    by_cases c60 : (t324.length : Int) ≤ (t320.length : Int)
                                    · rw [if_pos c60] at H
                                      have c60b0 := eq_true c60
                                      have c60b1 : decide ((t324.length : Int) ≤ (t320.length : Int)) = true := decide_eq_true c60
                                      clear c60
                                      obtain ⟨y335, hy335⟩ : ∃ y_ : List Int, y_ = (t320.take ((t324.length : Int) : Int).toNat) := ⟨_, rfl⟩
                                      replace H : ((tikref_Bytes.f y335 t324).bind fun t339 => (tiklaw15_RecApart.j3 kj43 t320 t324 t339 a0_0 a0_1 a0_2 l0_3 a1_0 a1_1 a1_2 l1_3)) = some r := by first | (rw [hy335]; with_reducible exact H) | (have H2_ := (Option.bind_some _ _).symm.trans H; rw [hy335]; with_reducible exact H2_) | (have H2_ := (Option.bind_some _ _).symm.trans H; with_reducible exact H2_) | with_reducible exact H | (rw [hy335]; exact H) | exact H
                                      have Ny335 := Aside0.mk hy335
                                      clear hy335
                                      replace H := Option.bind_eq_some_iff.mp H
                                      obtain ⟨t339, A610, H⟩ := H
                                      replace H : (tiklaw15_RecApart.j3 kj43 t320 t324 t339 a0_0 a0_1 a0_2 l0_3 a1_0 a1_1 a1_2 l1_3) = some r := H
                                      have A61 := Aside0.mk A610
                                      clear A610
                                      have H' := Aside0.mk H
                                      clear H
                                      obtain ⟨Ao62, co62, eo62⟩ := Kd.R_slice HO_5.out
                                      subst eo62
                                      obtain ⟨Ao63, co63, eo63⟩ := Kd.R_slice HO_7.out
                                      subst eo63
                                      have q64 : ((t320.length : Int) : Int) ≤ ((t324.length : Int) : Int) := of_decide_eq_true (by first | (with_reducible assumption) | assumption)
                                      obtain ⟨i064, hi064, _, hsz64, _⟩ := info_parts info5
                                      have hroom64 : t324.length ≤ co63 := (Kd.R_reads' HO_7.out).2.1
                                      have hC64 : Kd.C (Kd.int .u8) _ Ao63 t324.length t324 := (Kd.R_reads' HO_7.out).2.2
                                      have hcut64 := cut_to (P := Try.prog) 23 5 .i64 Try.underlying23 hi064 Ao63 t324.length co63 (t320.length : Int) (of_decide_eq_true (by first | (with_reducible assumption) | assumption)) q64 hroom64
                                      have hr64 := Kd.C_take (m := ((t320.length : Int) : Int).toNat) hC64 (by omega)
                                      have hy64 : y330.length = ((t320.length : Int) : Int).toNat := (by rw [Ny330.out, List.length_take]; omega)
                                      rw [← Ny330.out] at hr64
                                      rw [← hy64] at hcut64
                                      have HR333 := Aside0.mk hr64
                                      have HC333 := Aside0.mk (show y330.length ≤ co63 from by omega)
                                      clear hr64 hC64 hroom64 hi064 hsz64
                                      have KY64 := Aside0.mk hy64
                                      clear hy64
                                      have KL64 := Aside0.mk (show ((t320.length : Int) : Int).toNat ≤ t324.length from by omega)
                                      replace q64 := eq_true q64
                                      go_wp2_with (first | (go_at_call 16; (with_reducible refine (tikref_Bytes.calls _ _ y330 _ _ t320 false _ ?side1 ?side2 ?side3 ?side4 A53.out).mono ?_); (case side1 => repeat (first | exact (by repeat (first | (with_reducible exact HR333.out) | (with_reducible refine Kd.C_alloc ?_ _) | (with_reducible refine Kd.C_drewN ?_ _) | (with_reducible refine Kd.C_drew ?_) | exact HR333.out)) | (with_reducible refine Kd.C_alloc ?_ _) | (with_reducible refine Kd.C_drewN ?_ _) | (with_reducible refine Kd.C_drew ?_))); (case side2 => exact HC333.out); (case side3 => repeat (first | exact (Kd.R_reads' HO_5.out).2.2 | (with_reducible refine Kd.C_alloc ?_ _) | (with_reducible refine Kd.C_drewN ?_ _) | (with_reducible refine Kd.C_drew ?_))); (case side4 => exact (Kd.R_reads' HO_5.out).2.1); rintro e w' ⟨rfl, ⟨nd, rfl⟩⟩; have q65 : ((t324.length : Int) : Int) ≤ ((t320.length : Int) : Int) := of_decide_eq_true (by first | (with_reducible assumption) | assumption); obtain ⟨i065, hi065, _, hsz65, _⟩ := info_parts info5; have hroom65 : t320.length ≤ co62 := (Kd.R_reads' HO_5.out).2.1; have hC65 : Kd.C (Kd.int .u8) _ Ao62 t320.length t320 := (Kd.R_reads' HO_5.out).2.2; have hcut65 := cut_to (P := Try.prog) 23 5 .i64 Try.underlying23 hi065 Ao62 t320.length co62 (t324.length : Int) (of_decide_eq_true (by first | (with_reducible assumption) | assumption)) q65 hroom65; have hr65 := Kd.C_take (m := ((t324.length : Int) : Int).toNat) hC65 (by omega); have hy65 : y335.length = ((t324.length : Int) : Int).toNat := (by rw [Ny335.out, List.length_take]; omega); rw [← Ny335.out] at hr65; rw [← hy65] at hcut65; have HR338 := Aside0.mk hr65; have HC338 := Aside0.mk (show y335.length ≤ co62 from by omega); clear hr65 hC65 hroom65 hi065 hsz65; have KY65 := Aside0.mk hy65; clear hy65; have KL65 := Aside0.mk (show ((t324.length : Int) : Int).toNat ≤ t320.length from by omega); replace q65 := eq_true q65) | (go_at_call 16; (with_reducible refine (tikref_Bytes.calls _ _ y335 _ _ t324 t339 _ ?side1 ?side2 ?side3 ?side4 A61.out).mono ?_); (case side1 => repeat (first | exact (by repeat (first | (with_reducible exact HR338.out) | (with_reducible refine Kd.C_alloc ?_ _) | (with_reducible refine Kd.C_drewN ?_ _) | (with_reducible refine Kd.C_drew ?_) | exact HR338.out)) | (with_reducible refine Kd.C_alloc ?_ _) | (with_reducible refine Kd.C_drewN ?_ _) | (with_reducible refine Kd.C_drew ?_))); (case side2 => exact HC338.out); (case side3 => repeat (first | exact (Kd.R_reads' HO_7.out).2.2 | (with_reducible refine Kd.C_alloc ?_ _) | (with_reducible refine Kd.C_drewN ?_ _) | (with_reducible refine Kd.C_drew ?_))); (case side4 => exact (Kd.R_reads' HO_7.out).2.1); rintro e w' ⟨rfl, ⟨nd, rfl⟩⟩))
                                      go_meet
                                      case rel => exact ⟨_, (t339), (by first | rfl | (simp; done) | (simp [*]; done)), H', ⟨by have := HJ4.out; have := HJ19.out; have := HJ43.out; first | omega | exact Nat.le_refl _⟩, ⟨by (with_reducible repeat (first | apply Kd.R_alloc | apply Kd.R_drewN | apply Kd.R_drew)); exact HO_5.out⟩, ⟨by (with_reducible repeat (first | apply Kd.R_alloc | apply Kd.R_drewN | apply Kd.R_drew)); exact HO_7.out⟩, ⟨by (with_reducible repeat (first | refine blk_drewN ?_ _ | refine blk_drew ?_ | refine blk_alloc ?_ _)); exact BK316.out⟩, ⟨by (with_reducible repeat (first | refine blk_drewN ?_ _ | refine blk_drew ?_ | refine blk_alloc ?_ _)); exact BK317.out⟩, ⟨by repeat (first | (with_reducible first | exact HB.out | apply below_alloc | apply pw_below_drewN | apply below_drew1 | refine below_set ?_ GE316.out | refine below_set ?_ GE317.out) | exact HB.out)⟩⟩
                                    · rw [if_neg c60] at H
                                      exact absurd H (by simp)
                                  · rw [if_neg c59] at H
                                    exact absurd H (by simp)
                                · rw [if_neg c58] at H
                                  have c58b0 : decide ((t324.length : Int) < (t320.length : Int)) = false := decide_eq_false c58
                                  have c58b1 : decide (t324.length < t320.length) = false := decide_eq_false (fun h => c58 (Int.ofNat_lt.mpr h))
                                  clear c58
                                  have H' := Aside0.mk H
                                  clear H
                                  obtain ⟨Ao66, co66, eo66⟩ := Kd.R_slice HO_5.out
                                  subst eo66
                                  obtain ⟨Ao67, co67, eo67⟩ := Kd.R_slice HO_7.out
                                  subst eo67
                                  have q68 : ((t320.length : Int) : Int) ≤ ((t324.length : Int) : Int) := of_decide_eq_true (by first | (with_reducible assumption) | assumption)
                                  obtain ⟨i068, hi068, _, hsz68, _⟩ := info_parts info5
                                  have hroom68 : t324.length ≤ co67 := (Kd.R_reads' HO_7.out).2.1
                                  have hC68 : Kd.C (Kd.int .u8) _ Ao67 t324.length t324 := (Kd.R_reads' HO_7.out).2.2
                                  have hcut68 := cut_to (P := Try.prog) 23 5 .i64 Try.underlying23 hi068 Ao67 t324.length co67 (t320.length : Int) (of_decide_eq_true (by first | (with_reducible assumption) | assumption)) q68 hroom68
                                  have hr68 := Kd.C_take (m := ((t320.length : Int) : Int).toNat) hC68 (by omega)
                                  have hy68 : y330.length = ((t320.length : Int) : Int).toNat := (by rw [Ny330.out, List.length_take]; omega)
                                  rw [← Ny330.out] at hr68
                                  rw [← hy68] at hcut68
                                  have HR333 := Aside0.mk hr68
                                  have HC333 := Aside0.mk (show y330.length ≤ co67 from by omega)
                                  clear hr68 hC68 hroom68 hi068 hsz68
                                  have KY68 := Aside0.mk hy68
                                  clear hy68
                                  have KL68 := Aside0.mk (show ((t320.length : Int) : Int).toNat ≤ t324.length from by omega)
                                  replace q68 := eq_true q68
                                  go_wp2_with (first | (go_at_call 16; (with_reducible refine (tikref_Bytes.calls _ _ y330 _ _ t320 false _ ?side1 ?side2 ?side3 ?side4 A53.out).mono ?_); (case side1 => repeat (first | exact (by repeat (first | (with_reducible exact HR333.out) | (with_reducible refine Kd.C_alloc ?_ _) | (with_reducible refine Kd.C_drewN ?_ _) | (with_reducible refine Kd.C_drew ?_) | exact HR333.out)) | (with_reducible refine Kd.C_alloc ?_ _) | (with_reducible refine Kd.C_drewN ?_ _) | (with_reducible refine Kd.C_drew ?_))); (case side2 => exact HC333.out); (case side3 => repeat (first | exact (Kd.R_reads' HO_5.out).2.2 | (with_reducible refine Kd.C_alloc ?_ _) | (with_reducible refine Kd.C_drewN ?_ _) | (with_reducible refine Kd.C_drew ?_))); (case side4 => exact (Kd.R_reads' HO_5.out).2.1); rintro e w' ⟨rfl, ⟨nd, rfl⟩⟩))
                                  go_meet
                                  case rel => exact ⟨_, (false), (by first | rfl | (simp; done) | (simp [*]; done)), H', ⟨by have := HJ4.out; have := HJ19.out; have := HJ43.out; first | omega | exact Nat.le_refl _⟩, ⟨by (with_reducible repeat (first | apply Kd.R_alloc | apply Kd.R_drewN | apply Kd.R_drew)); exact HO_5.out⟩, ⟨by (with_reducible repeat (first | apply Kd.R_alloc | apply Kd.R_drewN | apply Kd.R_drew)); exact HO_7.out⟩, ⟨by (with_reducible repeat (first | refine blk_drewN ?_ _ | refine blk_drew ?_ | refine blk_alloc ?_ _)); exact BK316.out⟩, ⟨by (with_reducible repeat (first | refine blk_drewN ?_ _ | refine blk_drew ?_ | refine blk_alloc ?_ _)); exact BK317.out⟩, ⟨by repeat (first | (with_reducible first | exact HB.out | apply below_alloc | apply pw_below_drewN | apply below_drew1 | refine below_set ?_ GE316.out | refine below_set ?_ GE317.out) | exact HB.out)⟩⟩
                            · rw [if_neg c52] at H
                              exact absurd H (by simp)
                          · rw [if_neg c51] at H
                            exact absurd H (by simp)
                        · rw [if_neg c50] at H
                          have c50b0 : decide ((t320.length : Int) < (t324.length : Int)) = false := decide_eq_false c50
                          have c50b1 : decide (t320.length < t324.length) = false := decide_eq_false (fun h => c50 (Int.ofNat_lt.mpr h))
                          clear c50
                          (first | rw [c50b0] | (simp only [i64_w, i32_w]; rw [c50b0]) | skip)
                          by_cases c69 : (t324.length : Int) < (t320.length : Int)
                          · rw [if_pos c69] at H
                            have c69b0 : decide ((t324.length : Int) < (t320.length : Int)) = true := decide_eq_true c69
                            have c69b1 : decide (t324.length < t320.length) = true := decide_eq_true (Int.ofNat_lt.mp c69)
                            clear c69
                            by_cases c70 : 0 ≤ (t324.length : Int)
                            · rw [if_pos c70] at H
                              have c70b0 := eq_true c70
                              have c70b1 : decide (0 ≤ (t324.length : Int)) = true := decide_eq_true c70
                              clear c70
                              by_cases c71 : (t324.length : Int) ≤ (t320.length : Int)
                              · rw [if_pos c71] at H
                                have c71b0 := eq_true c71
                                have c71b1 : decide ((t324.length : Int) ≤ (t320.length : Int)) = true := decide_eq_true c71
                                clear c71
                                obtain ⟨y340, hy340⟩ : ∃ y_ : List Int, y_ = (t320.take ((t324.length : Int) : Int).toNat) := ⟨_, rfl⟩
                                replace H : ((tikref_Bytes.f y340 t324).bind fun t344 => (tiklaw15_RecApart.j3 kj43 t320 t324 t344 a0_0 a0_1 a0_2 l0_3 a1_0 a1_1 a1_2 l1_3)) = some r := by first | (rw [hy340]; with_reducible exact H) | (have H2_ := (Option.bind_some _ _).symm.trans H; rw [hy340]; with_reducible exact H2_) | (have H2_ := (Option.bind_some _ _).symm.trans H; with_reducible exact H2_) | with_reducible exact H | (rw [hy340]; exact H) | exact H
                                have Ny340 := Aside0.mk hy340
                                clear hy340
                                replace H := Option.bind_eq_some_iff.mp H
                                obtain ⟨t344, A720, H⟩ := H
                                replace H : (tiklaw15_RecApart.j3 kj43 t320 t324 t344 a0_0 a0_1 a0_2 l0_3 a1_0 a1_1 a1_2 l1_3) = some r := H
                                have A72 := Aside0.mk A720
                                clear A720
                                have H' := Aside0.mk H
                                clear H
                                obtain ⟨Ao73, co73, eo73⟩ := Kd.R_slice HO_5.out
                                subst eo73
                                obtain ⟨Ao74, co74, eo74⟩ := Kd.R_slice HO_7.out
                                subst eo74
                                have q75 : ((t324.length : Int) : Int) ≤ ((t320.length : Int) : Int) := of_decide_eq_true (by first | (with_reducible assumption) | assumption)
                                obtain ⟨i075, hi075, _, hsz75, _⟩ := info_parts info5
                                have hroom75 : t320.length ≤ co73 := (Kd.R_reads' HO_5.out).2.1
                                have hC75 : Kd.C (Kd.int .u8) _ Ao73 t320.length t320 := (Kd.R_reads' HO_5.out).2.2
                                have hcut75 := cut_to (P := Try.prog) 23 5 .i64 Try.underlying23 hi075 Ao73 t320.length co73 (t324.length : Int) (of_decide_eq_true (by first | (with_reducible assumption) | assumption)) q75 hroom75
                                have hr75 := Kd.C_take (m := ((t324.length : Int) : Int).toNat) hC75 (by omega)
                                have hy75 : y340.length = ((t324.length : Int) : Int).toNat := (by rw [Ny340.out, List.length_take]; omega)
                                rw [← Ny340.out] at hr75
                                rw [← hy75] at hcut75
                                have HR343 := Aside0.mk hr75
                                have HC343 := Aside0.mk (show y340.length ≤ co73 from by omega)
                                clear hr75 hC75 hroom75 hi075 hsz75
                                have KY75 := Aside0.mk hy75
                                clear hy75
                                have KL75 := Aside0.mk (show ((t324.length : Int) : Int).toNat ≤ t320.length from by omega)
                                replace q75 := eq_true q75
                                go_wp2_with (first | (go_at_call 16; (with_reducible refine (tikref_Bytes.calls _ _ y340 _ _ t324 t344 _ ?side1 ?side2 ?side3 ?side4 A72.out).mono ?_); (case side1 => repeat (first | exact (by repeat (first | (with_reducible exact HR343.out) | (with_reducible refine Kd.C_alloc ?_ _) | (with_reducible refine Kd.C_drewN ?_ _) | (with_reducible refine Kd.C_drew ?_) | exact HR343.out)) | (with_reducible refine Kd.C_alloc ?_ _) | (with_reducible refine Kd.C_drewN ?_ _) | (with_reducible refine Kd.C_drew ?_))); (case side2 => exact HC343.out); (case side3 => repeat (first | exact (Kd.R_reads' HO_7.out).2.2 | (with_reducible refine Kd.C_alloc ?_ _) | (with_reducible refine Kd.C_drewN ?_ _) | (with_reducible refine Kd.C_drew ?_))); (case side4 => exact (Kd.R_reads' HO_7.out).2.1); rintro e w' ⟨rfl, ⟨nd, rfl⟩⟩))
                                go_meet
                                case rel => exact ⟨_, (t344), (by first | rfl | (simp; done) | (simp [*]; done)), H', ⟨by have := HJ4.out; have := HJ19.out; have := HJ43.out; first | omega | exact Nat.le_refl _⟩, ⟨by (with_reducible repeat (first | apply Kd.R_alloc | apply Kd.R_drewN | apply Kd.R_drew)); exact HO_5.out⟩, ⟨by (with_reducible repeat (first | apply Kd.R_alloc | apply Kd.R_drewN | apply Kd.R_drew)); exact HO_7.out⟩, ⟨by (with_reducible repeat (first | refine blk_drewN ?_ _ | refine blk_drew ?_ | refine blk_alloc ?_ _)); exact BK316.out⟩, ⟨by (with_reducible repeat (first | refine blk_drewN ?_ _ | refine blk_drew ?_ | refine blk_alloc ?_ _)); exact BK317.out⟩, ⟨by repeat (first | (with_reducible first | exact HB.out | apply below_alloc | apply pw_below_drewN | apply below_drew1 | refine below_set ?_ GE316.out | refine below_set ?_ GE317.out) | exact HB.out)⟩⟩
                              · rw [if_neg c71] at H
                                exact absurd H (by simp)
                            · rw [if_neg c70] at H
                              exact absurd H (by simp)
                          · rw [if_neg c69] at H
                            have c69b0 : decide ((t324.length : Int) < (t320.length : Int)) = false := decide_eq_false c69
                            have c69b1 : decide (t324.length < t320.length) = false := decide_eq_false (fun h => c69 (Int.ofNat_lt.mpr h))
                            clear c69
                            have H' := Aside0.mk H
                            clear H
                            obtain ⟨Ao76, co76, eo76⟩ := Kd.R_slice HO_5.out
                            subst eo76
                            obtain ⟨Ao77, co77, eo77⟩ := Kd.R_slice HO_7.out
                            subst eo77
                            go_wp2
                            go_meet
                            case rel => exact ⟨_, (false), (by first | rfl | (simp; done) | (simp [*]; done)), H', ⟨by have := HJ4.out; have := HJ19.out; have := HJ43.out; first | omega | exact Nat.le_refl _⟩, ⟨by (with_reducible repeat (first | apply Kd.R_alloc | apply Kd.R_drewN | apply Kd.R_drew)); exact HO_5.out⟩, ⟨by (with_reducible repeat (first | apply Kd.R_alloc | apply Kd.R_drewN | apply Kd.R_drew)); exact HO_7.out⟩, ⟨by (with_reducible repeat (first | refine blk_drewN ?_ _ | refine blk_drew ?_ | refine blk_alloc ?_ _)); exact BK316.out⟩, ⟨by (with_reducible repeat (first | refine blk_drewN ?_ _ | refine blk_drew ?_ | refine blk_alloc ?_ _)); exact BK317.out⟩, ⟨by repeat (first | (with_reducible first | exact HB.out | apply below_alloc | apply pw_below_drewN | apply below_drew1 | refine below_set ?_ GE316.out | refine below_set ?_ GE317.out) | exact HB.out)⟩⟩
                      case rest =>
                        clear HC49
                        try clear c1
                        try clear c2
                        try clear p2
                        try clear c3
                        try clear c4
                        try clear c5
                        try clear q5
                        try clear c6
                        try clear q6
                        try clear c7
                        try clear q7
                        try clear c9
                        try clear c9b0
                        try clear c9b1
                        try clear c10
                        try clear c11
                        try clear c12
                        try clear c15
                        try clear c18
                        try clear c21
                        try clear c27
                        try clear c27b0
                        try clear c27b1
                        try clear c27b2
                        try clear c28
                        try clear c31
                        try clear c31b0
                        try clear c31b1
                        try clear c32
                        try clear c35
                        try clear c35b0
                        try clear c35b1
                        try clear c36
                        try clear c40
                        try clear c43
                        try clear c45
                        try clear c45b0
                        try clear c45b1
                        try clear c46
                        try clear c50
                        try clear c50b0
                        try clear c50b1
                        try clear c51
                        try clear c51b0
                        try clear c51b1
                        try clear c52
                        try clear c52b0
                        try clear c52b1
                        try clear c54
                        try clear q57
                        try clear c58
                        try clear c58b0
                        try clear c58b1
                        try clear c59
                        try clear c59b0
                        try clear c59b1
                        try clear c60
                        try clear c60b0
                        try clear c60b1
                        try clear q64
                        try clear q65
                        try clear q68
                        try clear c69
                        try clear c69b0
                        try clear c69b1
                        try clear c70
                        try clear c70b0
                        try clear c70b1
                        try clear c71
                        try clear c71b0
                        try clear c71b1
                        try clear q75
                        try clear hcz11_0
                        try clear hcz11_1
                        try clear hcz11_2
                        try clear hcz11_3
                        try clear hcz13_0
                        try clear hcz13_1
                        try clear hcz13_2
                        try clear hcz13_3
                        try clear hcz14_0
                        try clear hcz14_1
                        try clear hcz14_2
                        try clear hcz14_3
                        try clear hcz22_0
                        try clear hcz22_1
                        try clear hcz22_2
                        try clear hcz22_3
                        try clear hcz24_0
                        try clear hcz24_1
                        try clear hcz24_2
                        try clear hcz24_3
                        try clear hcz29_0
                        try clear hcz29_1
                        try clear hcz29_2
                        try clear hcz29_3
                        try clear hcz33_0
                        try clear hcz33_1
                        try clear hcz33_2
                        try clear hcz33_3
                        try clear hcz37_0
                        try clear hcz37_1
                        try clear hcz37_2
                        try clear hcz37_3
                        try clear hcz41_0
                        try clear hcz41_1
                        try clear hcz41_2
                        try clear hcz41_3
                        try clear hfz11_0
                        try clear hfz11_1
                        try clear hfz11_2
                        try clear hfz11_3
                        try clear hfz13_0
                        try clear hfz13_1
                        try clear hfz13_2
                        try clear hfz13_3
                        try clear hfz14_0
                        try clear hfz14_1
                        try clear hfz14_2
                        try clear hfz14_3
                        try clear hfz22_0
                        try clear hfz22_1
                        try clear hfz22_2
                        try clear hfz22_3
                        try clear hfz24_0
                        try clear hfz24_1
                        try clear hfz24_2
                        try clear hfz24_3
                        try clear hfz29_0
                        try clear hfz29_1
                        try clear hfz29_2
                        try clear hfz29_3
                        try clear hfz33_0
                        try clear hfz33_1
                        try clear hfz33_2
                        try clear hfz33_3
                        try clear hfz37_0
                        try clear hfz37_1
                        try clear hfz37_2
                        try clear hfz37_3
                        try clear hfz41_0
                        try clear hfz41_1
                        try clear hfz41_2
                        try clear hfz41_3
                        try clear p2
                        try clear q57
                        try clear q64
                        try clear q65
                        try clear q68
                        try clear q75
                        obtain ⟨kq, x9_48, rfl, HA, HJ48, HO_5, HO_7, BK316, BK317, HB⟩ := hcut
                        cases kq with
                        | zero => exact absurd HA.out (by simp [tiklaw15_RecApart.j3])
                        | succ kj48 =>
                          have H := HA.out
                          clear HA
                          simp only [tiklaw15_RecApart.j3] at H
                          replace H := Option.bind_eq_some_iff.mp H
                          obtain ⟨t345, A780, H⟩ := H
                          replace H : (if t345.length + t324.length < 140737488355328 then ((rec_Decode.f (t345 ++ t324) (t320.length : Int)).bind fun bt351 => ((tiklaw15_first.f kj48).bind fun t360 => (if t360 = true then ((tikref_Bytes.f t320 t324).bind fun t361 => ((rec_Same.f a0_0 a0_1 a0_2 l0_3 a1_0 a1_1 a1_2 l1_3).bind fun t362 => (if (t361 == t362) = true then (if x9_48 = true then (some false) else (if bt351.2.2.2.2.2 = 0 then ((rec_Same.f bt351.1 bt351.2.1 bt351.2.2.1 bt351.2.2.2.1 a1_0 a1_1 a1_2 l1_3).bind fun t363 => (if t363 = true then (some (bt351.2.2.2.2.1 == (wrap64 ((t320.length : Int) + (t324.length : Int))))) else (some false))) else (some false))) else (some false)))) else (some false)))) else (none)) = some r := H
                          have A78 := Aside0.mk A780
                          clear A780
                          by_cases c79 : t345.length + t324.length < 140737488355328
                          · rw [if_pos c79] at H
                            have LMc79 := Aside0.mk c79
                            clear c79
                            obtain ⟨y348, hy348⟩ : ∃ y_ : List Int, y_ = (t345 ++ t324) := ⟨_, rfl⟩
                            replace H : ((rec_Decode.f y348 (t320.length : Int)).bind fun bt351 => ((tiklaw15_first.f kj48).bind fun t360 => (if t360 = true then ((tikref_Bytes.f t320 t324).bind fun t361 => ((rec_Same.f a0_0 a0_1 a0_2 l0_3 a1_0 a1_1 a1_2 l1_3).bind fun t362 => (if (t361 == t362) = true then (if x9_48 = true then (some false) else (if bt351.2.2.2.2.2 = 0 then ((rec_Same.f bt351.1 bt351.2.1 bt351.2.2.1 bt351.2.2.2.1 a1_0 a1_1 a1_2 l1_3).bind fun t363 => (if t363 = true then (some (bt351.2.2.2.2.1 == (wrap64 ((t320.length : Int) + (t324.length : Int))))) else (some false))) else (some false))) else (some false)))) else (some false)))) = some r := by first | (rw [hy348]; with_reducible exact H) | (have H2_ := (Option.bind_some _ _).symm.trans H; rw [hy348]; with_reducible exact H2_) | (have H2_ := (Option.bind_some _ _).symm.trans H; with_reducible exact H2_) | with_reducible exact H | (rw [hy348]; exact H) | exact H
                            have Ny348 := Aside0.mk hy348
                            clear hy348
                            replace H := Option.bind_eq_some_iff.mp H
                            obtain ⟨⟨t351, t352, t353, t354, t357, t358⟩, A800, H⟩ := H
                            replace H : ((tiklaw15_first.f kj48).bind fun t360 => (if t360 = true then ((tikref_Bytes.f t320 t324).bind fun t361 => ((rec_Same.f a0_0 a0_1 a0_2 l0_3 a1_0 a1_1 a1_2 l1_3).bind fun t362 => (if (t361 == t362) = true then (if x9_48 = true then (some false) else (if t358 = 0 then ((rec_Same.f t351 t352 t353 t354 a1_0 a1_1 a1_2 l1_3).bind fun t363 => (if t363 = true then (some (t357 == (wrap64 ((t320.length : Int) + (t324.length : Int))))) else (some false))) else (some false))) else (some false)))) else (some false))) = some r := H
                            have A80 := Aside0.mk A800
                            clear A800
                            replace H := Option.bind_eq_some_iff.mp H
                            obtain ⟨t360, A810, H⟩ := H
                            replace H : (if t360 = true then ((tikref_Bytes.f t320 t324).bind fun t361 => ((rec_Same.f a0_0 a0_1 a0_2 l0_3 a1_0 a1_1 a1_2 l1_3).bind fun t362 => (if (t361 == t362) = true then (if x9_48 = true then (some false) else (if t358 = 0 then ((rec_Same.f t351 t352 t353 t354 a1_0 a1_1 a1_2 l1_3).bind fun t363 => (if t363 = true then (some (t357 == (wrap64 ((t320.length : Int) + (t324.length : Int))))) else (some false))) else (some false))) else (some false)))) else (some false)) = some r := H
                            have A81 := Aside0.mk A810
                            clear A810
                            by_cases c82 : t360 = true
                            · subst c82
                              have H1 : ((tikref_Bytes.f t320 t324).bind fun t361 => ((rec_Same.f a0_0 a0_1 a0_2 l0_3 a1_0 a1_1 a1_2 l1_3).bind fun t362 => (if (t361 == t362) = true then (if x9_48 = true then (some false) else (if t358 = 0 then ((rec_Same.f t351 t352 t353 t354 a1_0 a1_1 a1_2 l1_3).bind fun t363 => (if t363 = true then (some (t357 == (wrap64 ((t320.length : Int) + (t324.length : Int))))) else (some false))) else (some false))) else (some false)))) = some r := by rw [if_pos rfl] at H; exact H
                              clear H
                              have H := H1
                              clear H1
                              replace H := Option.bind_eq_some_iff.mp H
                              obtain ⟨t361, A830, H⟩ := H
                              replace H : ((rec_Same.f a0_0 a0_1 a0_2 l0_3 a1_0 a1_1 a1_2 l1_3).bind fun t362 => (if (t361 == t362) = true then (if x9_48 = true then (some false) else (if t358 = 0 then ((rec_Same.f t351 t352 t353 t354 a1_0 a1_1 a1_2 l1_3).bind fun t363 => (if t363 = true then (some (t357 == (wrap64 ((t320.length : Int) + (t324.length : Int))))) else (some false))) else (some false))) else (some false))) = some r := H
                              have A83 := Aside0.mk A830
                              clear A830
                              replace H := Option.bind_eq_some_iff.mp H
                              obtain ⟨t362, A840, H⟩ := H
                              replace H : (if (t361 == t362) = true then (if x9_48 = true then (some false) else (if t358 = 0 then ((rec_Same.f t351 t352 t353 t354 a1_0 a1_1 a1_2 l1_3).bind fun t363 => (if t363 = true then (some (t357 == (wrap64 ((t320.length : Int) + (t324.length : Int))))) else (some false))) else (some false))) else (some false)) = some r := H
                              have A84 := Aside0.mk A840
                              clear A840
                              by_cases c85 : (t361 == t362) = true
                              · rw [if_pos c85] at H
                                have c85b0 : (t361 == t362) = true := c85
                                (try (have c85b1 : decide (t361 = t362) = true := by simpa using c85))
                                (try (have c85b2 : (t361 == t362) = true := by simpa using c85))
                                clear c85
                                by_cases c86 : x9_48 = true
                                · subst c86
                                  have H1 : (some false) = some r := by rw [if_pos rfl] at H; exact H
                                  clear H
                                  have H := H1
                                  clear H1
                                  exact absurd ((Option.some.inj H).trans hr_.out) (by simp)
                                · replace c86 := Bool.eq_false_iff.mpr c86
                                  subst c86
                                  have H1 : (if t358 = 0 then ((rec_Same.f t351 t352 t353 t354 a1_0 a1_1 a1_2 l1_3).bind fun t363 => (if t363 = true then (some (t357 == (wrap64 ((t320.length : Int) + (t324.length : Int))))) else (some false))) else (some false)) = some r := by rw [if_neg (show ¬ (false = true) by decide)] at H; exact H
                                  clear H
                                  have H := H1
                                  clear H1
                                  by_cases c87 : t358 = 0
                                  · rw [if_pos c87] at H
                                    have c87b0 : (t358 == 0) = true := beq_iff_eq.mpr c87
                                    have c87b1 : (t358 != 0) = false := bne_eq_false_iff_eq.mpr c87
                                    clear c87
                                    replace H := Option.bind_eq_some_iff.mp H
                                    obtain ⟨t363, A880, H⟩ := H
                                    replace H : (if t363 = true then (some (t357 == (wrap64 ((t320.length : Int) + (t324.length : Int))))) else (some false)) = some r := H
                                    have A88 := Aside0.mk A880
                                    clear A880
                                    by_cases c89 : t363 = true
                                    · subst c89
                                      have H1 : (some (t357 == (wrap64 ((t320.length : Int) + (t324.length : Int))))) = some r := by rw [if_pos rfl] at H; exact H
                                      clear H
                                      have H := H1
                                      clear H1
                                      obtain rfl := Option.some.inj H
                                      obtain ⟨Ao90, co90, eo90⟩ := Kd.R_slice HO_5.out
                                      subst eo90
                                      try go_wp2_with (first | ((with_reducible refine gate_callee (f := 21) rfl ?_); refine goesL_ (some 91) rfl rfl Try.func21 (by kernel_rfl) rfl #[.slice Ao90 t320.length co90] rfl (by (try simp only [List.map_toArray, List.map_cons, List.map_nil]); first | done | rfl | (simp only [List.length_drop, List.length_take]; rfl)) ?_; (with_reducible refine (tikref_CopyBytes.calls _ _ t320 t345 _ ?side1 ?side2 A78.out).mono ?_); (case side1 => repeat (first | exact (Kd.R_reads' HO_5.out).2.2 | (with_reducible refine Kd.C_alloc ?_ _) | (with_reducible refine Kd.C_drewN ?_ _) | (with_reducible refine Kd.C_drew ?_))); (case side2 => exact (Kd.R_reads' HO_5.out).2.1); rintro e w91 ⟨v346, rfl, ho0, hb⟩; refine ⟨_, rfl, ?_⟩; have n0_ := Aside0.mk (Kd.R_elder' (by (with_reducible repeat (first | apply Kd.R_alloc | apply Kd.R_drewN | apply Kd.R_drew)); exact HO_5.out) (Kd.R_base ho0) hb); have n1_ := Aside0.mk (Kd.R_elder' (by (with_reducible repeat (first | apply Kd.R_alloc | apply Kd.R_drewN | apply Kd.R_drew)); exact HO_7.out) (Kd.R_base ho0) hb); have n2_ := Aside0.mk (Kd.R_lower (Kd.R_new' (Kd.R_new' ho0 (Kd.R_lt (by (with_reducible repeat (first | apply Kd.R_alloc | apply Kd.R_drewN | apply Kd.R_drew)); exact HO_5.out))) (Kd.R_lt (by (with_reducible repeat (first | apply Kd.R_alloc | apply Kd.R_drewN | apply Kd.R_drew)); exact HO_7.out))) (below_size (by repeat (first | (with_reducible first | exact HB.out | apply below_alloc | apply pw_below_drewN | apply below_drew1 | refine below_set ?_ GE316.out | refine below_set ?_ GE317.out) | exact HB.out)))); have n3_ := Aside0.mk (blk_below (g := gb316) (o := .cells #[.int .i64 a0_0, .int .u64 a0_1, .int .u64 a0_2, .slice A0_3 l0_3.length c0_3] 25 (0, 0)) (by (with_reducible repeat (first | refine blk_drewN ?_ _ | refine blk_drew ?_ | refine blk_alloc ?_ _)); exact BK316.out) hb); have n4_ := Aside0.mk (blk_below (g := gb317) (o := .cells #[.int .i64 a1_0, .int .u64 a1_1, .int .u64 a1_2, .slice A1_3 l1_3.length c1_3] 25 (0, 0)) (by (with_reducible repeat (first | refine blk_drewN ?_ _ | refine blk_drew ?_ | refine blk_alloc ?_ _)); exact BK317.out) hb); have n5_ := Aside0.mk (below_step (by repeat (first | (with_reducible first | exact HB.out | apply below_alloc | apply pw_below_drewN | apply below_drew1 | refine below_set ?_ GE316.out | refine below_set ?_ GE317.out) | exact HB.out)) hb); clear HO_5; clear HO_7; clear BK316; clear BK317; clear HB; have HO_5 := n0_; have HO_7 := n1_; have HO347 := n2_; have BK316 := n3_; have BK317 := n4_; have HB := n5_; clear n0_ n1_ n2_ n3_ n4_ n5_; (try clear hb); (try clear hb2); (try clear hk); (try clear hi); (try clear ho0); obtain ⟨Ao93, co93, eo93⟩ := Kd.R_slice HO_7.out; subst eo93) | ((with_reducible refine gate_builtin (b := .append) (xs := #[.tmp 91, .tmp 92]) rfl ?_); (try (refine gate_guard (by rfl) ?_; dsimp only)); at_builtin; refine Kd.R_append_rows (Kd.int .u8) (w0 := w) w.heap.size rfl (.tmp 91) (.tmp 92) 23 5 (.int .u8 0) 1 rfl Try.underlying23 info5 rfl (by decide) (by omega) v346 t345 t324 _ _ _ (fun k_ => some k_ ≠ (.slice Ao90 t320.length co90 : Value).ownBlock ∧ some k_ ≠ (.slice Ao93 t324.length co93 : Value).ownBlock) (fun _ => False) rfl rfl ?aO ?aR (fun _ _ h => h) (fun _ h => h.elim) ?aF ?aB ?aS ?aL ?_; (case aR => repeat (first | exact (Kd.R_reads' HO_7.out).2.2 | (with_reducible refine Kd.C_alloc ?_ _) | (with_reducible refine Kd.C_drewN ?_ _) | (with_reducible refine Kd.C_drew ?_))); (case aB => exact (by repeat (first | (with_reducible first | exact HB.out | apply below_alloc | apply pw_below_drewN | apply below_drew1 | refine below_set ?_ GE316.out | refine below_set ?_ GE317.out) | exact HB.out))); (case aF => exact (fun k_ hk => ⟨Kd.fresh' (Kd.R_lt (by (with_reducible repeat (first | apply Kd.R_alloc | apply Kd.R_drewN | apply Kd.R_drew)); exact HO_5.out)) k_ hk, Kd.fresh' (Kd.R_lt (by (with_reducible repeat (first | apply Kd.R_alloc | apply Kd.R_drewN | apply Kd.R_drew)); exact HO_7.out)) k_ hk⟩)); (case aO => exact (by (with_reducible repeat (first | apply Kd.R_alloc | apply Kd.R_drewN | apply Kd.R_drew)); exact Kd.R_mono HO347.out (fun _ hk => ⟨hk.1.2, hk.2⟩))); (case aS => exact (below_size (by repeat (first | (with_reducible first | exact HB.out | apply below_alloc | apply pw_below_drewN | apply below_drew1 | refine below_set ?_ GE316.out | refine below_set ?_ GE317.out) | exact HB.out)))); (case aL => have := LMc79.out; omega); intro v349 w92 ho hb hg hat; rw [← Ny348.out] at ho; have n0_ := Aside0.mk (Kd.R_after (ok := (fun k_ => some k_ ≠ (.slice Ao93 t324.length co93 : Value).ownBlock)) (by (with_reducible repeat (first | apply Kd.R_alloc | apply Kd.R_drewN | apply Kd.R_drew)); exact HO_5.out) hg hat); have n1_ := Aside0.mk (Kd.R_after (ok := (fun k_ => some k_ ≠ (.slice Ao90 t320.length co90 : Value).ownBlock)) (by (with_reducible repeat (first | apply Kd.R_alloc | apply Kd.R_drewN | apply Kd.R_drew)); exact HO_7.out) hg hat); have n2_ := Aside0.mk (blk_grown (g := gb316) (o := .cells #[.int .i64 a0_0, .int .u64 a0_1, .int .u64 a0_2, .slice A0_3 l0_3.length c0_3] 25 (0, 0)) (by (with_reducible repeat (first | refine blk_drewN ?_ _ | refine blk_drew ?_ | refine blk_alloc ?_ _)); exact BK316.out) hg (Kd.R_ne HO347.out BK316.out (by decide))); have n3_ := Aside0.mk (blk_grown (g := gb317) (o := .cells #[.int .i64 a1_0, .int .u64 a1_1, .int .u64 a1_2, .slice A1_3 l1_3.length c1_3] 25 (0, 0)) (by (with_reducible repeat (first | refine blk_drewN ?_ _ | refine blk_drew ?_ | refine blk_alloc ?_ _)); exact BK317.out) hg (Kd.R_ne HO347.out BK317.out (by decide))); have n4_ := Aside0.mk (hb); have n5_ := Aside0.mk (ho); clear HO_5; clear HO_7; clear BK316; clear BK317; clear HB; clear HO347; have HO_5 := n0_; have HO_7 := n1_; have BK316 := n2_; have BK317 := n3_; have HB := n4_; have HO350 := n5_; clear n0_ n1_ n2_ n3_ n4_ n5_; clear ho hb hg hat; obtain ⟨Ao94, co94, eo94⟩ := Kd.R_slice HO350.out; subst eo94) | ((with_reducible refine gate_callee (f := 14) rfl ?_); refine goesL_ (some 96) rfl rfl Try.func14 (by kernel_rfl) rfl #[.slice Ao94 y348.length co94, .int .i64 (t320.length : Int)] rfl (by (try simp only [List.map_toArray, List.map_cons, List.map_nil]); first | done | rfl | (simp only [List.length_drop, List.length_take]; rfl)) ?_; (with_reducible refine (rec_Decode.calls _ _ y348 (t320.length : Int) t351 t352 t353 t354 t357 t358 _ ?side1 ?side2 A80.out).mono ?_); (case side1 => repeat (first | exact (Kd.R_reads' HO350.out).2.2 | (with_reducible refine Kd.C_alloc ?_ _) | (with_reducible refine Kd.C_drewN ?_ _) | (with_reducible refine Kd.C_drew ?_))); (case side2 => exact (Kd.R_reads' HO350.out).2.1); rintro e w95 ⟨v355, rfl, ho0, hb⟩; refine ⟨_, rfl, ?_⟩; have n0_ := Aside0.mk (Kd.R_elder' (by (with_reducible repeat (first | apply Kd.R_alloc | apply Kd.R_drewN | apply Kd.R_drew)); exact HO_5.out) (Kd.R_base ho0) hb); have n1_ := Aside0.mk (Kd.R_elder' (by (with_reducible repeat (first | apply Kd.R_alloc | apply Kd.R_drewN | apply Kd.R_drew)); exact HO_7.out) (Kd.R_base ho0) hb); have n2_ := Aside0.mk (Kd.R_elder' (by (with_reducible repeat (first | apply Kd.R_alloc | apply Kd.R_drewN | apply Kd.R_drew)); exact HO350.out) (Kd.R_base ho0) hb); have n3_ := Aside0.mk (Kd.R_lower (Kd.R_new' (Kd.R_new' (Kd.R_new' ho0 (Kd.R_lt (by (with_reducible repeat (first | apply Kd.R_alloc | apply Kd.R_drewN | apply Kd.R_drew)); exact HO_5.out))) (Kd.R_lt (by (with_reducible repeat (first | apply Kd.R_alloc | apply Kd.R_drewN | apply Kd.R_drew)); exact HO_7.out))) (Kd.R_lt (by (with_reducible repeat (first | apply Kd.R_alloc | apply Kd.R_drewN | apply Kd.R_drew)); exact HO350.out))) (below_size (by repeat (first | (with_reducible first | exact HB.out | apply below_alloc | apply pw_below_drewN | apply below_drew1 | refine below_set ?_ GE316.out | refine below_set ?_ GE317.out) | exact HB.out)))); have n4_ := Aside0.mk (blk_below (g := gb316) (o := .cells #[.int .i64 a0_0, .int .u64 a0_1, .int .u64 a0_2, .slice A0_3 l0_3.length c0_3] 25 (0, 0)) (by (with_reducible repeat (first | refine blk_drewN ?_ _ | refine blk_drew ?_ | refine blk_alloc ?_ _)); exact BK316.out) hb); have n5_ := Aside0.mk (blk_below (g := gb317) (o := .cells #[.int .i64 a1_0, .int .u64 a1_1, .int .u64 a1_2, .slice A1_3 l1_3.length c1_3] 25 (0, 0)) (by (with_reducible repeat (first | refine blk_drewN ?_ _ | refine blk_drew ?_ | refine blk_alloc ?_ _)); exact BK317.out) hb); have n6_ := Aside0.mk (below_step (by repeat (first | (with_reducible first | exact HB.out | apply below_alloc | apply pw_below_drewN | apply below_drew1 | refine below_set ?_ GE316.out | refine below_set ?_ GE317.out) | exact HB.out)) hb); clear HO_5; clear HO_7; clear HO350; clear BK316; clear BK317; clear HB; have HO_5 := n0_; have HO_7 := n1_; have HO350 := n2_; have HO356 := n3_; have BK316 := n4_; have BK317 := n5_; have HB := n6_; clear n0_ n1_ n2_ n3_ n4_ n5_ n6_; (try clear hb); (try clear hb2); (try clear hk); (try clear hi); (try clear ho0)) | ((with_reducible refine gate_dst (N := 10) rfl ?_); (try (refine gate_guard (by rfl) ?_; dsimp only)); refine box_event ?hg (N := 10) ?hd (cs := #[.int .i64 0, .int .u64 0, .int .u64 0, .slice none 0 0]) (t := 25) ?hr ?_; (case hd => rfl); (case hg => rfl); (case hr => first | (go_simp; done) | (go_simp; rfl)); intro gb359 hg w96 hbox hb; have n0_ := Aside0.mk (Kd.R_below (by (with_reducible repeat (first | apply Kd.R_alloc | apply Kd.R_drewN | apply Kd.R_drew)); exact HO_5.out) hb); have n1_ := Aside0.mk (Kd.R_below (by (with_reducible repeat (first | apply Kd.R_alloc | apply Kd.R_drewN | apply Kd.R_drew)); exact HO_7.out) hb); have n2_ := Aside0.mk (Kd.R_below (by (with_reducible repeat (first | apply Kd.R_alloc | apply Kd.R_drewN | apply Kd.R_drew)); exact HO350.out) hb); have n3_ := Aside0.mk (Kd.R_below (by (with_reducible repeat (first | apply Kd.R_alloc | apply Kd.R_drewN | apply Kd.R_drew)); exact HO356.out) hb); have n4_ := Aside0.mk (blk_below (g := gb316) (o := .cells #[.int .i64 a0_0, .int .u64 a0_1, .int .u64 a0_2, .slice A0_3 l0_3.length c0_3] 25 (0, 0)) (by (with_reducible repeat (first | refine blk_drewN ?_ _ | refine blk_drew ?_ | refine blk_alloc ?_ _)); exact BK316.out) hb); have n5_ := Aside0.mk (blk_below (g := gb317) (o := .cells #[.int .i64 a1_0, .int .u64 a1_1, .int .u64 a1_2, .slice A1_3 l1_3.length c1_3] 25 (0, 0)) (by (with_reducible repeat (first | refine blk_drewN ?_ _ | refine blk_drew ?_ | refine blk_alloc ?_ _)); exact BK317.out) hb); have n6_ := Aside0.mk (below_step (by repeat (first | (with_reducible first | exact HB.out | apply below_alloc | apply pw_below_drewN | apply below_drew1 | refine below_set ?_ GE316.out | refine below_set ?_ GE317.out) | exact HB.out)) hb); have n7_ := Aside0.mk (hbox); have n8_ := Aside0.mk ((by rw [hg]; exact (below_size (by repeat (first | (with_reducible first | exact HB.out | apply below_alloc | apply pw_below_drewN | apply below_drew1 | refine below_set ?_ GE316.out | refine below_set ?_ GE317.out) | exact HB.out))) : w.heap.size ≤ gb359)); have n9_ := Aside0.mk ((by rw [hg]; exact (below_size (by repeat (first | (with_reducible first | exact HB.out | apply below_alloc | apply pw_below_drewN | apply below_drew1 | refine below_set ?_ GE316.out | refine below_set ?_ GE317.out) | exact HB.out))) : w.heap.size ≤ gb359)); have n10_ := Aside0.mk ((by rw [hg]; exact Nat.ne_of_lt (blk_lt (g := gb316) (o := .cells #[.int .i64 a0_0, .int .u64 a0_1, .int .u64 a0_2, .slice A0_3 l0_3.length c0_3] 25 (0, 0)) (by (with_reducible repeat (first | refine blk_drewN ?_ _ | refine blk_drew ?_ | refine blk_alloc ?_ _)); exact BK316.out)) : gb316 ≠ gb359)); have n11_ := Aside0.mk ((by rw [hg]; exact Nat.ne_of_gt (blk_lt (g := gb316) (o := .cells #[.int .i64 a0_0, .int .u64 a0_1, .int .u64 a0_2, .slice A0_3 l0_3.length c0_3] 25 (0, 0)) (by (with_reducible repeat (first | refine blk_drewN ?_ _ | refine blk_drew ?_ | refine blk_alloc ?_ _)); exact BK316.out)) : gb359 ≠ gb316)); have n12_ := Aside0.mk ((by rw [hg]; exact Nat.ne_of_lt (blk_lt (g := gb317) (o := .cells #[.int .i64 a1_0, .int .u64 a1_1, .int .u64 a1_2, .slice A1_3 l1_3.length c1_3] 25 (0, 0)) (by (with_reducible repeat (first | refine blk_drewN ?_ _ | refine blk_drew ?_ | refine blk_alloc ?_ _)); exact BK317.out)) : gb317 ≠ gb359)); have n13_ := Aside0.mk ((by rw [hg]; exact Nat.ne_of_gt (blk_lt (g := gb317) (o := .cells #[.int .i64 a1_0, .int .u64 a1_1, .int .u64 a1_2, .slice A1_3 l1_3.length c1_3] 25 (0, 0)) (by (with_reducible repeat (first | refine blk_drewN ?_ _ | refine blk_drew ?_ | refine blk_alloc ?_ _)); exact BK317.out)) : gb359 ≠ gb317)); clear HO_5; clear HO_7; clear HO350; clear HO356; clear BK316; clear BK317; clear HB; have HO_5 := n0_; have HO_7 := n1_; have HO350 := n2_; have HO356 := n3_; have BK316 := n4_; have BK317 := n5_; have HB := n6_; have BK359 := n7_; have GW359 := n8_; have GE359 := n9_; have NB316_359 := n10_; have NB359_316 := n11_; have NB317_359 := n12_; have NB359_317 := n13_; clear n0_ n1_ n2_ n3_ n4_ n5_ n6_ n7_ n8_ n9_ n10_ n11_ n12_ n13_; clear hb hbox hg; have hnb97 := NB359_316.out; have hnc97 := NB316_359.out; have hnb98 := NB359_317.out; have hnc98 := NB317_359.out; have hcz99_0 : w96.cell? ⟨gb359, 0, none⟩ = some (.int .i64 0) := (blk_cell BK359.out 0).trans rfl; have hcz99_1 : w96.cell? ⟨gb359, 1, none⟩ = some (.int .u64 0) := (blk_cell BK359.out 1).trans rfl; have hcz99_2 : w96.cell? ⟨gb359, 2, none⟩ = some (.int .u64 0) := (blk_cell BK359.out 2).trans rfl; have hcz99_3 : w96.cell? ⟨gb359, 3, none⟩ = some (.slice none 0 0) := (blk_cell BK359.out 3).trans rfl; have hfz99_0 := blk_frozen BK359.out 0; have hfz99_1 := blk_frozen BK359.out 1; have hfz99_2 := blk_frozen BK359.out 2; have hfz99_3 := blk_frozen BK359.out 3; obtain ⟨Ao100, co100, eo100⟩ := Kd.R_slice HO356.out; subst eo100))
                                      have n0_ : Aside0 (Kd.R (Kd.int .u8) 5 ((((w96.setCell ⟨gb359, 0, none⟩ (.int .i64 t351)).setCell ⟨gb359, 1, none⟩ (.int .u64 t352)).setCell ⟨gb359, 2, none⟩ (.int .u64 t353)).setCell ⟨gb359, 3, none⟩ (.slice Ao100 t354.length co100)) w.heap.size (fun k_ => some k_ ≠ (.slice Ao93 t324.length co93 : Value).ownBlock ∧ some k_ ≠ (.slice Ao94 y348.length co94 : Value).ownBlock ∧ some k_ ≠ (.slice Ao100 t354.length co100 : Value).ownBlock) (.slice Ao90 t320.length co90) t320) := ⟨by (with_reducible repeat (first | apply Kd.R_alloc | apply Kd.R_drewN | apply Kd.R_drew)); exact Kd.R_mono (Kd.R_far (p := ⟨gb359, 3, none⟩) (Kd.R_far (p := ⟨gb359, 2, none⟩) (Kd.R_far (p := ⟨gb359, 1, none⟩) (Kd.R_far (p := ⟨gb359, 0, none⟩) (Kd.R_types HO_5.out BK359.out (by decide)) (fun _ hk => hk.2) (.int .i64 t351)) (fun _ hk => hk.2) (.int .u64 t352)) (fun _ hk => hk.2) (.int .u64 t353)) (fun _ hk => hk.2) (.slice Ao100 t354.length co100)) (fun _ hk => ⟨hk.1.1.1, ⟨hk.1.1.2, hk.1.2⟩⟩)⟩
                                      have n1_ : Aside0 (Kd.R (Kd.int .u8) 5 ((((w96.setCell ⟨gb359, 0, none⟩ (.int .i64 t351)).setCell ⟨gb359, 1, none⟩ (.int .u64 t352)).setCell ⟨gb359, 2, none⟩ (.int .u64 t353)).setCell ⟨gb359, 3, none⟩ (.slice Ao100 t354.length co100)) w.heap.size (fun k_ => some k_ ≠ (.slice Ao90 t320.length co90 : Value).ownBlock ∧ some k_ ≠ (.slice Ao94 y348.length co94 : Value).ownBlock ∧ some k_ ≠ (.slice Ao100 t354.length co100 : Value).ownBlock) (.slice Ao93 t324.length co93) t324) := ⟨by (with_reducible repeat (first | apply Kd.R_alloc | apply Kd.R_drewN | apply Kd.R_drew)); exact Kd.R_mono (Kd.R_far (p := ⟨gb359, 3, none⟩) (Kd.R_far (p := ⟨gb359, 2, none⟩) (Kd.R_far (p := ⟨gb359, 1, none⟩) (Kd.R_far (p := ⟨gb359, 0, none⟩) (Kd.R_types HO_7.out BK359.out (by decide)) (fun _ hk => hk.2) (.int .i64 t351)) (fun _ hk => hk.2) (.int .u64 t352)) (fun _ hk => hk.2) (.int .u64 t353)) (fun _ hk => hk.2) (.slice Ao100 t354.length co100)) (fun _ hk => ⟨hk.1.1.1, ⟨hk.1.1.2, hk.1.2⟩⟩)⟩
                                      have n2_ : Aside0 (Kd.R (Kd.int .u8) 5 ((((w96.setCell ⟨gb359, 0, none⟩ (.int .i64 t351)).setCell ⟨gb359, 1, none⟩ (.int .u64 t352)).setCell ⟨gb359, 2, none⟩ (.int .u64 t353)).setCell ⟨gb359, 3, none⟩ (.slice Ao100 t354.length co100)) w.heap.size (fun k_ => some k_ ≠ (.slice Ao90 t320.length co90 : Value).ownBlock ∧ some k_ ≠ (.slice Ao93 t324.length co93 : Value).ownBlock ∧ some k_ ≠ (.slice Ao100 t354.length co100 : Value).ownBlock) (.slice Ao94 y348.length co94) y348) := ⟨by (with_reducible repeat (first | apply Kd.R_alloc | apply Kd.R_drewN | apply Kd.R_drew)); exact Kd.R_mono (Kd.R_far (p := ⟨gb359, 3, none⟩) (Kd.R_far (p := ⟨gb359, 2, none⟩) (Kd.R_far (p := ⟨gb359, 1, none⟩) (Kd.R_far (p := ⟨gb359, 0, none⟩) (Kd.R_types HO350.out BK359.out (by decide)) (fun _ hk => hk.2) (.int .i64 t351)) (fun _ hk => hk.2) (.int .u64 t352)) (fun _ hk => hk.2) (.int .u64 t353)) (fun _ hk => hk.2) (.slice Ao100 t354.length co100)) (fun _ hk => ⟨hk.1.1.1, ⟨hk.1.1.2, hk.1.2⟩⟩)⟩
                                      have n3_ : Aside0 (Kd.R (Kd.int .u8) 5 ((((w96.setCell ⟨gb359, 0, none⟩ (.int .i64 t351)).setCell ⟨gb359, 1, none⟩ (.int .u64 t352)).setCell ⟨gb359, 2, none⟩ (.int .u64 t353)).setCell ⟨gb359, 3, none⟩ (.slice Ao100 t354.length co100)) w.heap.size (fun k_ => some k_ ≠ (.slice Ao90 t320.length co90 : Value).ownBlock ∧ some k_ ≠ (.slice Ao93 t324.length co93 : Value).ownBlock ∧ some k_ ≠ (.slice Ao94 y348.length co94 : Value).ownBlock) (.slice Ao100 t354.length co100) t354) := ⟨by (with_reducible repeat (first | apply Kd.R_alloc | apply Kd.R_drewN | apply Kd.R_drew)); exact Kd.R_mono (Kd.R_far (p := ⟨gb359, 3, none⟩) (Kd.R_far (p := ⟨gb359, 2, none⟩) (Kd.R_far (p := ⟨gb359, 1, none⟩) (Kd.R_far (p := ⟨gb359, 0, none⟩) (Kd.R_types HO356.out BK359.out (by decide)) (fun _ hk => hk.2) (.int .i64 t351)) (fun _ hk => hk.2) (.int .u64 t352)) (fun _ hk => hk.2) (.int .u64 t353)) (fun _ hk => hk.2) (.slice Ao100 t354.length co100)) (fun _ hk => ⟨hk.1.1.1.2, ⟨hk.1.1.2, hk.1.2⟩⟩)⟩
                                      have n4_ : Aside0 (((((w96.setCell ⟨gb359, 0, none⟩ (.int .i64 t351)).setCell ⟨gb359, 1, none⟩ (.int .u64 t352)).setCell ⟨gb359, 2, none⟩ (.int .u64 t353)).setCell ⟨gb359, 3, none⟩ (.slice Ao100 t354.length co100)).heap[gb316]? = some (.cells #[.int .i64 a0_0, .int .u64 a0_1, .int .u64 a0_2, .slice A0_3 l0_3.length c0_3] 25 (0, 0))) := ⟨by (with_reducible repeat (first | refine blk_drewN ?_ _ | refine blk_drew ?_ | refine blk_alloc ?_ _)); refine blk_far ?_ NB316_359.out _; (with_reducible repeat (first | refine blk_drewN ?_ _ | refine blk_drew ?_ | refine blk_alloc ?_ _)); refine blk_far ?_ NB316_359.out _; (with_reducible repeat (first | refine blk_drewN ?_ _ | refine blk_drew ?_ | refine blk_alloc ?_ _)); refine blk_far ?_ NB316_359.out _; (with_reducible repeat (first | refine blk_drewN ?_ _ | refine blk_drew ?_ | refine blk_alloc ?_ _)); refine blk_far ?_ NB316_359.out _; (with_reducible repeat (first | refine blk_drewN ?_ _ | refine blk_drew ?_ | refine blk_alloc ?_ _)); exact BK316.out⟩
                                      have n5_ : Aside0 (((((w96.setCell ⟨gb359, 0, none⟩ (.int .i64 t351)).setCell ⟨gb359, 1, none⟩ (.int .u64 t352)).setCell ⟨gb359, 2, none⟩ (.int .u64 t353)).setCell ⟨gb359, 3, none⟩ (.slice Ao100 t354.length co100)).heap[gb317]? = some (.cells #[.int .i64 a1_0, .int .u64 a1_1, .int .u64 a1_2, .slice A1_3 l1_3.length c1_3] 25 (0, 0))) := ⟨by (with_reducible repeat (first | refine blk_drewN ?_ _ | refine blk_drew ?_ | refine blk_alloc ?_ _)); refine blk_far ?_ NB317_359.out _; (with_reducible repeat (first | refine blk_drewN ?_ _ | refine blk_drew ?_ | refine blk_alloc ?_ _)); refine blk_far ?_ NB317_359.out _; (with_reducible repeat (first | refine blk_drewN ?_ _ | refine blk_drew ?_ | refine blk_alloc ?_ _)); refine blk_far ?_ NB317_359.out _; (with_reducible repeat (first | refine blk_drewN ?_ _ | refine blk_drew ?_ | refine blk_alloc ?_ _)); refine blk_far ?_ NB317_359.out _; (with_reducible repeat (first | refine blk_drewN ?_ _ | refine blk_drew ?_ | refine blk_alloc ?_ _)); exact BK317.out⟩
                                      have n6_ : Aside0 (((((w96.setCell ⟨gb359, 0, none⟩ (.int .i64 t351)).setCell ⟨gb359, 1, none⟩ (.int .u64 t352)).setCell ⟨gb359, 2, none⟩ (.int .u64 t353)).setCell ⟨gb359, 3, none⟩ (.slice Ao100 t354.length co100)).heap[gb359]? = some (.cells #[.int .i64 t351, .int .u64 t352, .int .u64 t353, .slice Ao100 t354.length co100] 25 (0, 0))) := ⟨by (with_reducible repeat (first | refine blk_drewN ?_ _ | refine blk_drew ?_ | refine blk_alloc ?_ _)); refine blk_put (cs := #[.int .i64 t351, .int .u64 t352, .int .u64 t353, .slice none 0 0]) ?_ 3 _ rfl; (with_reducible repeat (first | refine blk_drewN ?_ _ | refine blk_drew ?_ | refine blk_alloc ?_ _)); refine blk_put (cs := #[.int .i64 t351, .int .u64 t352, .int .u64 0, .slice none 0 0]) ?_ 2 _ rfl; (with_reducible repeat (first | refine blk_drewN ?_ _ | refine blk_drew ?_ | refine blk_alloc ?_ _)); refine blk_put (cs := #[.int .i64 t351, .int .u64 0, .int .u64 0, .slice none 0 0]) ?_ 1 _ rfl; (with_reducible repeat (first | refine blk_drewN ?_ _ | refine blk_drew ?_ | refine blk_alloc ?_ _)); refine blk_put (cs := #[.int .i64 0, .int .u64 0, .int .u64 0, .slice none 0 0]) ?_ 0 _ rfl; (with_reducible repeat (first | refine blk_drewN ?_ _ | refine blk_drew ?_ | refine blk_alloc ?_ _)); exact BK359.out⟩
                                      have n7_ : Aside0 (Below w.heap.size w ((((w96.setCell ⟨gb359, 0, none⟩ (.int .i64 t351)).setCell ⟨gb359, 1, none⟩ (.int .u64 t352)).setCell ⟨gb359, 2, none⟩ (.int .u64 t353)).setCell ⟨gb359, 3, none⟩ (.slice Ao100 t354.length co100))) := ⟨by repeat (first | (with_reducible first | exact HB.out | apply below_alloc | apply pw_below_drewN | apply below_drew1 | refine below_set ?_ GE316.out | refine below_set ?_ GE317.out | refine below_set ?_ GE359.out) | exact HB.out)⟩
                                      (try clear HO_5)
                                      (try clear HO_7)
                                      (try clear HO350)
                                      (try clear HO356)
                                      (try clear BK316)
                                      (try clear BK317)
                                      (try clear BK359)
                                      (try clear HB)
                                      generalize ((((w96.setCell ⟨gb359, 0, none⟩ (.int .i64 t351)).setCell ⟨gb359, 1, none⟩ (.int .u64 t352)).setCell ⟨gb359, 2, none⟩ (.int .u64 t353)).setCell ⟨gb359, 3, none⟩ (.slice Ao100 t354.length co100)) = w101 at n0_ n1_ n2_ n3_ n4_ n5_ n6_ n7_ ⊢
                                      have HO_5 := n0_
                                      have HO_7 := n1_
                                      have HO350 := n2_
                                      have HO356 := n3_
                                      have BK316 := n4_
                                      have BK317 := n5_
                                      have BK359 := n6_
                                      have HB := n7_
                                      clear n0_ n1_ n2_ n3_ n4_ n5_ n6_ n7_
                                      have n0_ := Aside0.mk (Kd.R_drew HO_5.out)
                                      have n1_ := Aside0.mk (Kd.R_drew HO_7.out)
                                      have n2_ := Aside0.mk (Kd.R_drew HO350.out)
                                      have n3_ := Aside0.mk (Kd.R_drew HO356.out)
                                      have n4_ := Aside0.mk (blk_drew BK316.out)
                                      have n5_ := Aside0.mk (blk_drew BK317.out)
                                      have n6_ := Aside0.mk (blk_drew BK359.out)
                                      have n7_ := Aside0.mk (below_drew1 HB.out)
                                      clear HO_5
                                      clear HO_7
                                      clear HO350
                                      clear HO356
                                      clear BK316
                                      clear BK317
                                      clear BK359
                                      clear HB
                                      have HO_5 := n0_
                                      have HO_7 := n1_
                                      have HO350 := n2_
                                      have HO356 := n3_
                                      have BK316 := n4_
                                      have BK317 := n5_
                                      have BK359 := n6_
                                      have HB := n7_
                                      clear n0_ n1_ n2_ n3_ n4_ n5_ n6_ n7_
                                      refine start_ (n := 33) (S := fun w' => w'.cell? ⟨gb316, 0, none⟩ = some (.int .i64 a0_0) ∧ w'.cell? ⟨gb316, 1, none⟩ = some (.int .u64 a0_1) ∧ w'.cell? ⟨gb316, 2, none⟩ = some (.int .u64 a0_2) ∧ w'.cell? ⟨gb316, 3, none⟩ = some (.slice A0_3 l0_3.length c0_3) ∧ w'.cell? ⟨gb317, 0, none⟩ = some (.int .i64 a1_0) ∧ w'.cell? ⟨gb317, 1, none⟩ = some (.int .u64 a1_1) ∧ w'.cell? ⟨gb317, 2, none⟩ = some (.int .u64 a1_2) ∧ w'.cell? ⟨gb317, 3, none⟩ = some (.slice A1_3 l1_3.length c1_3) ∧ w'.cell? ⟨gb359, 0, none⟩ = some (.int .i64 t351) ∧ w'.cell? ⟨gb359, 1, none⟩ = some (.int .u64 t352) ∧ w'.cell? ⟨gb359, 2, none⟩ = some (.int .u64 t353) ∧ w'.cell? ⟨gb359, 3, none⟩ = some (.slice Ao100 t354.length co100)) (ds := []) #[false, false, false, false, false, false, false, false, false, false, false, false, false, false, false, false, false, false, false, false, false, false, false, false, false, false, false, false, false, false, false, false, false] (by kernel_rfl) rfl rfl ⟨(blk_cell BK316.out 0).trans rfl, (blk_cell BK316.out 1).trans rfl, (blk_cell BK316.out 2).trans rfl, (blk_cell BK316.out 3).trans rfl, (blk_cell BK317.out 0).trans rfl, (blk_cell BK317.out 1).trans rfl, (blk_cell BK317.out 2).trans rfl, (blk_cell BK317.out 3).trans rfl, (blk_cell BK359.out 0).trans rfl, (blk_cell BK359.out 1).trans rfl, (blk_cell BK359.out 2).trans rfl, (blk_cell BK359.out 3).trans rfl⟩ (fun hHeld => ?_); refine with_tabW tiklaw15_RecApart.tab13 tiklaw15_RecApart.bits13 (fun HT_ HW_ => ?_)
                                      generalize w101.drew = w102 at HO_5 HO_7 HO350 HO356 BK316 BK317 BK359 HB hHeld ⊢
                                      refine one_ (i := 0) (N := some 100) #[true, false, false, false, false, false, false, false, false, false, false, false, false, false, false, false, false, false, false, false, false, false, false, false, false, false, false, false, false, false, false, false, false] rfl rfl (one_of HT_.out (by kernel_rfl)) (by decide) (fun K hK => ?_)
                                      refine goes_ Try.func10 (by kernel_rfl) rfl #[] (by rfl) rfl rfl (by (try simp only [List.map_toArray, List.map_cons, List.map_nil]); first | done | rfl | (simp only [List.length_drop, List.length_take]; rfl)) ?_
                                      with_reducible refine (tiklaw15_first.calls kj48  true _ A81.out).mono ?_
                                      rintro e w103 ⟨rfl, hb⟩
                                      refine ⟨_, rfl, ?_⟩
                                      have n0_ := Aside0.mk (Kd.R_below (by (with_reducible repeat (first | apply Kd.R_alloc | apply Kd.R_drewN | apply Kd.R_drew)); exact HO_5.out) hb)
                                      have n1_ := Aside0.mk (Kd.R_below (by (with_reducible repeat (first | apply Kd.R_alloc | apply Kd.R_drewN | apply Kd.R_drew)); exact HO_7.out) hb)
                                      have n2_ := Aside0.mk (Kd.R_below (by (with_reducible repeat (first | apply Kd.R_alloc | apply Kd.R_drewN | apply Kd.R_drew)); exact HO350.out) hb)
                                      have n3_ := Aside0.mk (Kd.R_below (by (with_reducible repeat (first | apply Kd.R_alloc | apply Kd.R_drewN | apply Kd.R_drew)); exact HO356.out) hb)
                                      have n4_ := Aside0.mk (blk_below (g := gb316) (o := .cells #[.int .i64 a0_0, .int .u64 a0_1, .int .u64 a0_2, .slice A0_3 l0_3.length c0_3] 25 (0, 0)) (by (with_reducible repeat (first | refine blk_drewN ?_ _ | refine blk_drew ?_ | refine blk_alloc ?_ _)); exact BK316.out) hb)
                                      have n5_ := Aside0.mk (blk_below (g := gb317) (o := .cells #[.int .i64 a1_0, .int .u64 a1_1, .int .u64 a1_2, .slice A1_3 l1_3.length c1_3] 25 (0, 0)) (by (with_reducible repeat (first | refine blk_drewN ?_ _ | refine blk_drew ?_ | refine blk_alloc ?_ _)); exact BK317.out) hb)
                                      have n6_ := Aside0.mk (blk_below (g := gb359) (o := .cells #[.int .i64 t351, .int .u64 t352, .int .u64 t353, .slice Ao100 t354.length co100] 25 (0, 0)) (by (with_reducible repeat (first | refine blk_drewN ?_ _ | refine blk_drew ?_ | refine blk_alloc ?_ _)); exact BK359.out) hb)
                                      have n7_ := Aside0.mk (below_step (by repeat (first | (with_reducible first | exact HB.out | apply below_alloc | apply pw_below_drewN | apply below_drew1 | refine below_set ?_ GE316.out | refine below_set ?_ GE317.out | refine below_set ?_ GE359.out) | exact HB.out)) hb)
                                      clear HO_5
                                      clear HO_7
                                      clear HO350
                                      clear HO356
                                      clear BK316
                                      clear BK317
                                      clear BK359
                                      clear HB
                                      have HO_5 := n0_
                                      have HO_7 := n1_
                                      have HO350 := n2_
                                      have HO356 := n3_
                                      have BK316 := n4_
                                      have BK317 := n5_
                                      have BK359 := n6_
                                      have HB := n7_
                                      clear n0_ n1_ n2_ n3_ n4_ n5_ n6_ n7_
                                      (try clear hb)
                                      (try clear hb2)
                                      (try clear hk)
                                      (try clear hi)
                                      refine hK.out _ _ ⟨(blk_cell BK316.out 0).trans rfl, (blk_cell BK316.out 1).trans rfl, (blk_cell BK316.out 2).trans rfl, (blk_cell BK316.out 3).trans rfl, (blk_cell BK317.out 0).trans rfl, (blk_cell BK317.out 1).trans rfl, (blk_cell BK317.out 2).trans rfl, (blk_cell BK317.out 3).trans rfl, (blk_cell BK359.out 0).trans rfl, (blk_cell BK359.out 1).trans rfl, (blk_cell BK359.out 2).trans rfl, (blk_cell BK359.out 3).trans rfl⟩ (fun hHeld => ?_)
                                      clear hK K
                                      refine norm_ (a' := ?_) ?_ ?_
                                      rotate_left
                                      · show Act.put _ (some 100) _ = _
                                        simp only [Act.put, List.setIfInBounds_toArray, List.set_cons_zero, List.set_cons_succ, i64_w, i32_w]
                                        rfl
                                      refine pure_ (i := 1) (N := some 101) (v := ?_) (a' := ?_) #[true, true, false, false, false, false, false, false, false, false, false, false, false, false, false, false, false, false, false, false, false, false, false, false, false, false, false, false, false, false, false, false, false] rfl rfl (any_of HT_.out (by kernel_rfl)) (fun _ _ _ h => h) (Or.inl ⟨by rfl, ?_⟩) ?_ ?_
                                      rotate_left
                                      · intro w'
                                        go_simp
                                        with_reducible rfl
                                      rotate_left
                                      · simp only [Act.put, List.setIfInBounds_toArray, List.set_cons_zero, List.set_cons_succ, i64_w, i32_w]
                                        rfl
                                      refine pure_ (i := 2) (N := some 102) (v := ?_) (a' := ?_) #[true, true, true, false, false, false, false, false, false, false, false, false, false, false, false, false, false, false, false, false, false, false, false, false, false, false, false, false, false, false, false, false, false] rfl rfl (any_of HT_.out (by kernel_rfl)) (fun _ _ _ h => h) (Or.inl ⟨by rfl, ?_⟩) ?_ ?_
                                      rotate_left
                                      · intro w'
                                        go_simp
                                        with_reducible rfl
                                      rotate_left
                                      · simp only [Act.put, List.setIfInBounds_toArray, List.set_cons_zero, List.set_cons_succ, i64_w, i32_w]
                                        rfl
                                      refine pure_ (i := 3) (N := some 103) (v := ?_) (a' := ?_) #[true, true, true, true, false, false, false, false, false, false, false, false, false, false, false, false, false, false, false, false, false, false, false, false, false, false, false, false, false, false, false, false, false] rfl rfl (any_of HT_.out (by kernel_rfl)) (fun _ _ _ h => h) (Or.inl ⟨by rfl, ?_⟩) ?_ ?_
                                      rotate_left
                                      · intro w'
                                        go_simp
                                        with_reducible rfl
                                      rotate_left
                                      · simp only [Act.put, List.setIfInBounds_toArray, List.set_cons_zero, List.set_cons_succ, i64_w, i32_w]
                                        rfl
                                      refine take_ (i := 5) (N := some 105) (v := ?_) (a' := ?_) #[true, true, true, true, false, true, false, false, false, false, false, false, false, false, false, false, false, false, false, false, false, false, false, false, false, false, false, false, false, false, false, false, false] rfl rfl (take_ofW HT_.out HW_.out (by kernel_rfl)) (fun _ _ _ h => h) (Or.inl ⟨by rfl, ?_⟩) hHeld ?_ ?_
                                      rotate_left
                                      · rintro w' ⟨s0, s1, s2, s3, s4, s5, s6, s7, s8, s9, s10, s11⟩
                                        go_simp
                                        with_reducible rfl
                                      rotate_left
                                      · simp only [Act.put, List.setIfInBounds_toArray, List.set_cons_zero, List.set_cons_succ, i64_w, i32_w]
                                        rfl
                                      refine take_ (i := 6) (N := some 106) (v := ?_) (a' := ?_) #[true, true, true, true, false, true, true, false, false, false, false, false, false, false, false, false, false, false, false, false, false, false, false, false, false, false, false, false, false, false, false, false, false] rfl rfl (take_ofW HT_.out HW_.out (by kernel_rfl)) (fun _ _ _ h => h) (Or.inl ⟨by rfl, ?_⟩) hHeld ?_ ?_
                                      rotate_left
                                      · rintro w' ⟨s0, s1, s2, s3, s4, s5, s6, s7, s8, s9, s10, s11⟩
                                        go_simp
                                        with_reducible rfl
                                      rotate_left
                                      · simp only [Act.put, List.setIfInBounds_toArray, List.set_cons_zero, List.set_cons_succ, i64_w, i32_w]
                                        rfl
                                      refine one_ (i := 4) (N := some 104) #[true, true, true, true, true, true, true, false, false, false, false, false, false, false, false, false, false, false, false, false, false, false, false, false, false, false, false, false, false, false, false, false, false] rfl rfl (one_of HT_.out (by kernel_rfl)) (by decide) (fun K hK => ?_)
                                      refine goes_ Try.func16 (by kernel_rfl) rfl #[.slice Ao90 t320.length co90, .slice Ao93 t324.length co93] (by rfl) rfl rfl (by (try simp only [List.map_toArray, List.map_cons, List.map_nil]); first | done | rfl | (simp only [List.length_drop, List.length_take]; rfl)) ?_
                                      with_reducible refine (tikref_Bytes.calls _ _ t320 _ _ t324 t361 _ ?side1 ?side2 ?side3 ?side4 A83.out).mono ?_
                                      (case side1 => repeat (first | exact (Kd.R_reads' HO_5.out).2.2 | (with_reducible refine Kd.C_alloc ?_ _) | (with_reducible refine Kd.C_drewN ?_ _) | (with_reducible refine Kd.C_drew ?_)))
                                      (case side2 => exact (Kd.R_reads' HO_5.out).2.1)
                                      (case side3 => repeat (first | exact (Kd.R_reads' HO_7.out).2.2 | (with_reducible refine Kd.C_alloc ?_ _) | (with_reducible refine Kd.C_drewN ?_ _) | (with_reducible refine Kd.C_drew ?_)))
                                      (case side4 => exact (Kd.R_reads' HO_7.out).2.1)
                                      rintro e w' ⟨rfl, ⟨nd, rfl⟩⟩
                                      refine ⟨_, rfl, ?_⟩
                                      refine hK.out _ _ ⟨(blk_cell BK316.out 0).trans rfl, (blk_cell BK316.out 1).trans rfl, (blk_cell BK316.out 2).trans rfl, (blk_cell BK316.out 3).trans rfl, (blk_cell BK317.out 0).trans rfl, (blk_cell BK317.out 1).trans rfl, (blk_cell BK317.out 2).trans rfl, (blk_cell BK317.out 3).trans rfl, (blk_cell BK359.out 0).trans rfl, (blk_cell BK359.out 1).trans rfl, (blk_cell BK359.out 2).trans rfl, (blk_cell BK359.out 3).trans rfl⟩ (fun hHeld => ?_)
                                      clear hK K
                                      refine norm_ (a' := ?_) ?_ ?_
                                      rotate_left
                                      · show Act.put _ (some 104) _ = _
                                        simp only [Act.put, List.setIfInBounds_toArray, List.set_cons_zero, List.set_cons_succ, i64_w, i32_w]
                                        rfl
                                      refine one_ (i := 7) (N := some 107) #[true, true, true, true, true, true, true, true, false, false, false, false, false, false, false, false, false, false, false, false, false, false, false, false, false, false, false, false, false, false, false, false, false] rfl rfl (one_of HT_.out (by kernel_rfl)) (by decide) (fun K hK => ?_)
                                      refine goes_ Try.func20 (by kernel_rfl) rfl #[.agg #[.int .i64 a0_0, .int .u64 a0_1, .int .u64 a0_2, .slice A0_3 l0_3.length c0_3], .agg #[.int .i64 a1_0, .int .u64 a1_1, .int .u64 a1_2, .slice A1_3 l1_3.length c1_3]] (by rfl) rfl rfl (by (try simp only [List.map_toArray, List.map_cons, List.map_nil]); first | done | rfl | (simp only [List.length_drop, List.length_take]; rfl)) ?_
                                      with_reducible refine (rec_Same.calls a0_0 a0_1 a0_2 _ _ l0_3 a1_0 a1_1 a1_2 _ _ l1_3 t362 _ ?side1 ?side2 ?side3 ?side4 A84.out).mono ?_
                                      (case side1 => repeat (first | exact (Kd.C_below HR0_3.out (by repeat (first | (with_reducible first | exact HB.out | apply below_alloc | apply pw_below_drewN | apply below_drew1 | refine below_set ?_ GE316.out | refine below_set ?_ GE317.out | refine below_set ?_ GE359.out) | exact HB.out))) | (with_reducible refine Kd.C_alloc ?_ _) | (with_reducible refine Kd.C_drewN ?_ _) | (with_reducible refine Kd.C_drew ?_)))
                                      (case side2 => exact HC0_3.out)
                                      (case side3 => repeat (first | exact (Kd.C_below HR1_3.out (by repeat (first | (with_reducible first | exact HB.out | apply below_alloc | apply pw_below_drewN | apply below_drew1 | refine below_set ?_ GE316.out | refine below_set ?_ GE317.out | refine below_set ?_ GE359.out) | exact HB.out))) | (with_reducible refine Kd.C_alloc ?_ _) | (with_reducible refine Kd.C_drewN ?_ _) | (with_reducible refine Kd.C_drew ?_)))
                                      (case side4 => exact HC1_3.out)
                                      rintro e w104 ⟨rfl, hb⟩
                                      refine ⟨_, rfl, ?_⟩
                                      have n0_ := Aside0.mk (Kd.R_below (by (with_reducible repeat (first | apply Kd.R_alloc | apply Kd.R_drewN | apply Kd.R_drew)); exact HO_5.out) hb)
                                      have n1_ := Aside0.mk (Kd.R_below (by (with_reducible repeat (first | apply Kd.R_alloc | apply Kd.R_drewN | apply Kd.R_drew)); exact HO_7.out) hb)
                                      have n2_ := Aside0.mk (Kd.R_below (by (with_reducible repeat (first | apply Kd.R_alloc | apply Kd.R_drewN | apply Kd.R_drew)); exact HO350.out) hb)
                                      have n3_ := Aside0.mk (Kd.R_below (by (with_reducible repeat (first | apply Kd.R_alloc | apply Kd.R_drewN | apply Kd.R_drew)); exact HO356.out) hb)
                                      have n4_ := Aside0.mk (blk_below (g := gb316) (o := .cells #[.int .i64 a0_0, .int .u64 a0_1, .int .u64 a0_2, .slice A0_3 l0_3.length c0_3] 25 (0, 0)) (by (with_reducible repeat (first | refine blk_drewN ?_ _ | refine blk_drew ?_ | refine blk_alloc ?_ _)); exact BK316.out) hb)
                                      have n5_ := Aside0.mk (blk_below (g := gb317) (o := .cells #[.int .i64 a1_0, .int .u64 a1_1, .int .u64 a1_2, .slice A1_3 l1_3.length c1_3] 25 (0, 0)) (by (with_reducible repeat (first | refine blk_drewN ?_ _ | refine blk_drew ?_ | refine blk_alloc ?_ _)); exact BK317.out) hb)
                                      have n6_ := Aside0.mk (blk_below (g := gb359) (o := .cells #[.int .i64 t351, .int .u64 t352, .int .u64 t353, .slice Ao100 t354.length co100] 25 (0, 0)) (by (with_reducible repeat (first | refine blk_drewN ?_ _ | refine blk_drew ?_ | refine blk_alloc ?_ _)); exact BK359.out) hb)
                                      have n7_ := Aside0.mk (below_step (by repeat (first | (with_reducible first | exact HB.out | apply below_alloc | apply pw_below_drewN | apply below_drew1 | refine below_set ?_ GE316.out | refine below_set ?_ GE317.out | refine below_set ?_ GE359.out) | exact HB.out)) hb)
                                      clear HO_5
                                      clear HO_7
                                      clear HO350
                                      clear HO356
                                      clear BK316
                                      clear BK317
                                      clear BK359
                                      clear HB
                                      have HO_5 := n0_
                                      have HO_7 := n1_
                                      have HO350 := n2_
                                      have HO356 := n3_
                                      have BK316 := n4_
                                      have BK317 := n5_
                                      have BK359 := n6_
                                      have HB := n7_
                                      clear n0_ n1_ n2_ n3_ n4_ n5_ n6_ n7_
                                      (try clear hb)
                                      (try clear hb2)
                                      (try clear hk)
                                      (try clear hi)
                                      refine hK.out _ _ ⟨(blk_cell BK316.out 0).trans rfl, (blk_cell BK316.out 1).trans rfl, (blk_cell BK316.out 2).trans rfl, (blk_cell BK316.out 3).trans rfl, (blk_cell BK317.out 0).trans rfl, (blk_cell BK317.out 1).trans rfl, (blk_cell BK317.out 2).trans rfl, (blk_cell BK317.out 3).trans rfl, (blk_cell BK359.out 0).trans rfl, (blk_cell BK359.out 1).trans rfl, (blk_cell BK359.out 2).trans rfl, (blk_cell BK359.out 3).trans rfl⟩ (fun hHeld => ?_)
                                      clear hK K
                                      refine norm_ (a' := ?_) ?_ ?_
                                      rotate_left
                                      · show Act.put _ (some 107) _ = _
                                        simp only [Act.put, List.setIfInBounds_toArray, List.set_cons_zero, List.set_cons_succ, i64_w, i32_w]
                                        rfl
                                      refine pure_ (i := 8) (N := some 108) (v := ?_) (a' := ?_) #[true, true, true, true, true, true, true, true, true, false, false, false, false, false, false, false, false, false, false, false, false, false, false, false, false, false, false, false, false, false, false, false, false] rfl rfl (any_of HT_.out (by kernel_rfl)) (fun _ _ _ h => h) (Or.inl ⟨by rfl, ?_⟩) ?_ ?_
                                      rotate_left
                                      · intro w'
                                        go_simp
                                        with_reducible rfl
                                      rotate_left
                                      · simp only [Act.put, List.setIfInBounds_toArray, List.set_cons_zero, List.set_cons_succ, i64_w, i32_w]
                                        rfl
                                      refine pure_ (i := 9) (N := some 109) (v := ?_) (a' := ?_) #[true, true, true, true, true, true, true, true, true, true, false, false, false, false, false, false, false, false, false, false, false, false, false, false, false, false, false, false, false, false, false, false, false] rfl rfl (any_of HT_.out (by kernel_rfl)) (fun _ _ _ h => h) (Or.inl ⟨by rfl, ?_⟩) ?_ ?_
                                      rotate_left
                                      · intro w'
                                        go_simp
                                        with_reducible rfl
                                      rotate_left
                                      · simp only [Act.put, List.setIfInBounds_toArray, List.set_cons_zero, List.set_cons_succ, i64_w, i32_w]
                                        rfl
                                      refine pure_ (i := 10) (N := some 110) (v := ?_) (a' := ?_) #[true, true, true, true, true, true, true, true, true, true, true, false, false, false, false, false, false, false, false, false, false, false, false, false, false, false, false, false, false, false, false, false, false] rfl rfl (any_of HT_.out (by kernel_rfl)) (fun _ _ _ h => h) (Or.inl ⟨by rfl, ?_⟩) ?_ ?_
                                      rotate_left
                                      · intro w'
                                        go_simp
                                        with_reducible rfl
                                      rotate_left
                                      · simp only [Act.put, List.setIfInBounds_toArray, List.set_cons_zero, List.set_cons_succ, i64_w, i32_w]
                                        rfl
                                      refine pure_ (i := 11) (N := some 111) (v := ?_) (a' := ?_) #[true, true, true, true, true, true, true, true, true, true, true, true, false, false, false, false, false, false, false, false, false, false, false, false, false, false, false, false, false, false, false, false, false] rfl rfl (any_of HT_.out (by kernel_rfl)) (fun _ _ _ h => h) (Or.inl ⟨by rfl, ?_⟩) ?_ ?_
                                      rotate_left
                                      · intro w'
                                        go_simp
                                        with_reducible rfl
                                      rotate_left
                                      · simp only [Act.put, List.setIfInBounds_toArray, List.set_cons_zero, List.set_cons_succ, i64_w, i32_w]
                                        rfl
                                      refine pure_ (i := 12) (N := some 112) (v := ?_) (a' := ?_) #[true, true, true, true, true, true, true, true, true, true, true, true, true, false, false, false, false, false, false, false, false, false, false, false, false, false, false, false, false, false, false, false, false] rfl rfl (any_of HT_.out (by kernel_rfl)) (fun _ _ _ h => h) (Or.inl ⟨by rfl, ?_⟩) ?_ ?_
                                      rotate_left
                                      · intro w'
                                        go_simp
                                        with_reducible rfl
                                      rotate_left
                                      · simp only [Act.put, List.setIfInBounds_toArray, List.set_cons_zero, List.set_cons_succ, i64_w, i32_w]
                                        rfl
                                      refine pure_ (i := 13) (N := some 113) (v := ?_) (a' := ?_) #[true, true, true, true, true, true, true, true, true, true, true, true, true, true, false, false, false, false, false, false, false, false, false, false, false, false, false, false, false, false, false, false, false] rfl rfl (any_of HT_.out (by kernel_rfl)) (fun _ _ _ h => h) (Or.inl ⟨by rfl, ?_⟩) ?_ ?_
                                      rotate_left
                                      · intro w'
                                        go_simp
                                        with_reducible rfl
                                      rotate_left
                                      · simp only [Act.put, List.setIfInBounds_toArray, List.set_cons_zero, List.set_cons_succ, i64_w, i32_w]
                                        rfl
                                      refine pure_ (i := 14) (N := some 114) (v := ?_) (a' := ?_) #[true, true, true, true, true, true, true, true, true, true, true, true, true, true, true, false, false, false, false, false, false, false, false, false, false, false, false, false, false, false, false, false, false] rfl rfl (any_of HT_.out (by kernel_rfl)) (fun _ _ _ h => h) (Or.inl ⟨by rfl, ?_⟩) ?_ ?_
                                      rotate_left
                                      · intro w'
                                        go_simp
                                        with_reducible rfl
                                      rotate_left
                                      · simp only [Act.put, List.setIfInBounds_toArray, List.set_cons_zero, List.set_cons_succ, i64_w, i32_w]
                                        rfl
                                      refine pure_ (i := 15) (N := some 115) (v := ?_) (a' := ?_) #[true, true, true, true, true, true, true, true, true, true, true, true, true, true, true, true, false, false, false, false, false, false, false, false, false, false, false, false, false, false, false, false, false] rfl rfl (any_of HT_.out (by kernel_rfl)) (fun _ _ _ h => h) (Or.inl ⟨by rfl, ?_⟩) ?_ ?_
                                      rotate_left
                                      · intro w'
                                        go_simp
                                        with_reducible rfl
                                      rotate_left
                                      · simp only [Act.put, List.setIfInBounds_toArray, List.set_cons_zero, List.set_cons_succ, i64_w, i32_w]
                                        rfl
                                      refine pure_ (i := 16) (N := some 116) (v := ?_) (a' := ?_) #[true, true, true, true, true, true, true, true, true, true, true, true, true, true, true, true, true, false, false, false, false, false, false, false, false, false, false, false, false, false, false, false, false] rfl rfl (any_of HT_.out (by kernel_rfl)) (fun _ _ _ h => h) (Or.inl ⟨by rfl, ?_⟩) ?_ ?_
                                      rotate_left
                                      · intro w'
                                        go_simp
                                        with_reducible rfl
                                      rotate_left
                                      · simp only [Act.put, List.setIfInBounds_toArray, List.set_cons_zero, List.set_cons_succ, i64_w, i32_w]
                                        rfl
                                      refine pure_ (i := 17) (N := some 117) (v := ?_) (a' := ?_) #[true, true, true, true, true, true, true, true, true, true, true, true, true, true, true, true, true, true, false, false, false, false, false, false, false, false, false, false, false, false, false, false, false] rfl rfl (any_of HT_.out (by kernel_rfl)) (fun _ _ _ h => h) (Or.inl ⟨by rfl, ?_⟩) ?_ ?_
                                      rotate_left
                                      · intro w'
                                        go_simp
                                        with_reducible rfl
                                      rotate_left
                                      · simp only [Act.put, List.setIfInBounds_toArray, List.set_cons_zero, List.set_cons_succ, i64_w, i32_w]
                                        rfl
                                      refine pure_ (i := 18) (N := some 118) (v := ?_) (a' := ?_) #[true, true, true, true, true, true, true, true, true, true, true, true, true, true, true, true, true, true, true, false, false, false, false, false, false, false, false, false, false, false, false, false, false] rfl rfl (any_of HT_.out (by kernel_rfl)) (fun _ _ _ h => h) (Or.inl ⟨by rfl, ?_⟩) ?_ ?_
                                      rotate_left
                                      · intro w'
                                        go_simp
                                        with_reducible rfl
                                      rotate_left
                                      · simp only [Act.put, List.setIfInBounds_toArray, List.set_cons_zero, List.set_cons_succ, i64_w, i32_w]
                                        rfl
                                      refine take_ (i := 19) (N := some 119) (v := ?_) (a' := ?_) #[true, true, true, true, true, true, true, true, true, true, true, true, true, true, true, true, true, true, true, true, false, false, false, false, false, false, false, false, false, false, false, false, false] rfl rfl (take_ofW HT_.out HW_.out (by kernel_rfl)) (fun _ _ _ h => h) (Or.inl ⟨by rfl, ?_⟩) hHeld ?_ ?_
                                      rotate_left
                                      · rintro w' ⟨s0, s1, s2, s3, s4, s5, s6, s7, s8, s9, s10, s11⟩
                                        go_simp
                                        with_reducible rfl
                                      rotate_left
                                      · simp only [Act.put, List.setIfInBounds_toArray, List.set_cons_zero, List.set_cons_succ, i64_w, i32_w]
                                        rfl
                                      refine take_ (i := 20) (N := some 120) (v := ?_) (a' := ?_) #[true, true, true, true, true, true, true, true, true, true, true, true, true, true, true, true, true, true, true, true, true, false, false, false, false, false, false, false, false, false, false, false, false] rfl rfl (take_ofW HT_.out HW_.out (by kernel_rfl)) (fun _ _ _ h => h) (Or.inl ⟨by rfl, ?_⟩) hHeld ?_ ?_
                                      rotate_left
                                      · rintro w' ⟨s0, s1, s2, s3, s4, s5, s6, s7, s8, s9, s10, s11⟩
                                        go_simp
                                        with_reducible rfl
                                      rotate_left
                                      · simp only [Act.put, List.setIfInBounds_toArray, List.set_cons_zero, List.set_cons_succ, i64_w, i32_w]
                                        rfl
                                      refine one_ (i := 21) (N := some 121) #[true, true, true, true, true, true, true, true, true, true, true, true, true, true, true, true, true, true, true, true, true, true, false, false, false, false, false, false, false, false, false, false, false] rfl rfl (one_of HT_.out (by kernel_rfl)) (by decide) (fun K hK => ?_)
                                      refine goes_ Try.func20 (by kernel_rfl) rfl #[.agg #[.int .i64 t351, .int .u64 t352, .int .u64 t353, .slice Ao100 t354.length co100], .agg #[.int .i64 a1_0, .int .u64 a1_1, .int .u64 a1_2, .slice A1_3 l1_3.length c1_3]] (by rfl) rfl rfl (by (try simp only [List.map_toArray, List.map_cons, List.map_nil]); first | done | rfl | (simp only [List.length_drop, List.length_take]; rfl)) ?_
                                      with_reducible refine (rec_Same.calls t351 t352 t353 _ _ t354 a1_0 a1_1 a1_2 _ _ l1_3 true _ ?side1 ?side2 ?side3 ?side4 A88.out).mono ?_
                                      (case side1 => repeat (first | exact (Kd.R_reads' HO356.out).2.2 | (with_reducible refine Kd.C_alloc ?_ _) | (with_reducible refine Kd.C_drewN ?_ _) | (with_reducible refine Kd.C_drew ?_)))
                                      (case side2 => exact (Kd.R_reads' HO356.out).2.1)
                                      (case side3 => repeat (first | exact (Kd.C_below HR1_3.out HB.out) | (with_reducible refine Kd.C_alloc ?_ _) | (with_reducible refine Kd.C_drewN ?_ _) | (with_reducible refine Kd.C_drew ?_)))
                                      (case side4 => exact HC1_3.out)
                                      rintro e w105 ⟨rfl, hb⟩
                                      refine ⟨_, rfl, ?_⟩
                                      have n0_ := Aside0.mk (Kd.R_below (by (with_reducible repeat (first | apply Kd.R_alloc | apply Kd.R_drewN | apply Kd.R_drew)); exact HO_5.out) hb)
                                      have n1_ := Aside0.mk (Kd.R_below (by (with_reducible repeat (first | apply Kd.R_alloc | apply Kd.R_drewN | apply Kd.R_drew)); exact HO_7.out) hb)
                                      have n2_ := Aside0.mk (Kd.R_below (by (with_reducible repeat (first | apply Kd.R_alloc | apply Kd.R_drewN | apply Kd.R_drew)); exact HO350.out) hb)
                                      have n3_ := Aside0.mk (Kd.R_below (by (with_reducible repeat (first | apply Kd.R_alloc | apply Kd.R_drewN | apply Kd.R_drew)); exact HO356.out) hb)
                                      have n4_ := Aside0.mk (blk_below (g := gb316) (o := .cells #[.int .i64 a0_0, .int .u64 a0_1, .int .u64 a0_2, .slice A0_3 l0_3.length c0_3] 25 (0, 0)) (by (with_reducible repeat (first | refine blk_drewN ?_ _ | refine blk_drew ?_ | refine blk_alloc ?_ _)); exact BK316.out) hb)
                                      have n5_ := Aside0.mk (blk_below (g := gb317) (o := .cells #[.int .i64 a1_0, .int .u64 a1_1, .int .u64 a1_2, .slice A1_3 l1_3.length c1_3] 25 (0, 0)) (by (with_reducible repeat (first | refine blk_drewN ?_ _ | refine blk_drew ?_ | refine blk_alloc ?_ _)); exact BK317.out) hb)
                                      have n6_ := Aside0.mk (blk_below (g := gb359) (o := .cells #[.int .i64 t351, .int .u64 t352, .int .u64 t353, .slice Ao100 t354.length co100] 25 (0, 0)) (by (with_reducible repeat (first | refine blk_drewN ?_ _ | refine blk_drew ?_ | refine blk_alloc ?_ _)); exact BK359.out) hb)
                                      have n7_ := Aside0.mk (below_step (by repeat (first | (with_reducible first | exact HB.out | apply below_alloc | apply pw_below_drewN | apply below_drew1 | refine below_set ?_ GE316.out | refine below_set ?_ GE317.out | refine below_set ?_ GE359.out) | exact HB.out)) hb)
                                      clear HO_5
                                      clear HO_7
                                      clear HO350
                                      clear HO356
                                      clear BK316
                                      clear BK317
                                      clear BK359
                                      clear HB
                                      have HO_5 := n0_
                                      have HO_7 := n1_
                                      have HO350 := n2_
                                      have HO356 := n3_
                                      have BK316 := n4_
                                      have BK317 := n5_
                                      have BK359 := n6_
                                      have HB := n7_
                                      clear n0_ n1_ n2_ n3_ n4_ n5_ n6_ n7_
                                      (try clear hb)
                                      (try clear hb2)
                                      (try clear hk)
                                      (try clear hi)
                                      refine hK.out _ _ ⟨(blk_cell BK316.out 0).trans rfl, (blk_cell BK316.out 1).trans rfl, (blk_cell BK316.out 2).trans rfl, (blk_cell BK316.out 3).trans rfl, (blk_cell BK317.out 0).trans rfl, (blk_cell BK317.out 1).trans rfl, (blk_cell BK317.out 2).trans rfl, (blk_cell BK317.out 3).trans rfl, (blk_cell BK359.out 0).trans rfl, (blk_cell BK359.out 1).trans rfl, (blk_cell BK359.out 2).trans rfl, (blk_cell BK359.out 3).trans rfl⟩ (fun hHeld => ?_)
                                      clear hK K
                                      refine norm_ (a' := ?_) ?_ ?_
                                      rotate_left
                                      · show Act.put _ (some 121) _ = _
                                        simp only [Act.put, List.setIfInBounds_toArray, List.set_cons_zero, List.set_cons_succ, i64_w, i32_w]
                                        rfl
                                      refine pure_ (i := 22) (N := some 122) (v := ?_) (a' := ?_) #[true, true, true, true, true, true, true, true, true, true, true, true, true, true, true, true, true, true, true, true, true, true, true, false, false, false, false, false, false, false, false, false, false] rfl rfl (any_of HT_.out (by kernel_rfl)) (fun _ _ _ h => h) (Or.inl ⟨by rfl, ?_⟩) ?_ ?_
                                      rotate_left
                                      · intro w'
                                        go_simp
                                        with_reducible rfl
                                      rotate_left
                                      · simp only [Act.put, List.setIfInBounds_toArray, List.set_cons_zero, List.set_cons_succ, i64_w, i32_w]
                                        rfl
                                      refine pure_ (i := 23) (N := some 123) (v := ?_) (a' := ?_) #[true, true, true, true, true, true, true, true, true, true, true, true, true, true, true, true, true, true, true, true, true, true, true, true, false, false, false, false, false, false, false, false, false] rfl rfl (any_of HT_.out (by kernel_rfl)) (fun _ _ _ h => h) (Or.inl ⟨by rfl, ?_⟩) ?_ ?_
                                      rotate_left
                                      · intro w'
                                        go_simp
                                        with_reducible rfl
                                      rotate_left
                                      · simp only [Act.put, List.setIfInBounds_toArray, List.set_cons_zero, List.set_cons_succ, i64_w, i32_w]
                                        rfl
                                      refine pure_ (i := 24) (N := some 124) (v := ?_) (a' := ?_) #[true, true, true, true, true, true, true, true, true, true, true, true, true, true, true, true, true, true, true, true, true, true, true, true, true, false, false, false, false, false, false, false, false] rfl rfl (any_of HT_.out (by kernel_rfl)) (fun _ _ _ h => h) (Or.inl ⟨by rfl, ?_⟩) ?_ ?_
                                      rotate_left
                                      · intro w'
                                        go_simp
                                        with_reducible rfl
                                      rotate_left
                                      · simp only [Act.put, List.setIfInBounds_toArray, List.set_cons_zero, List.set_cons_succ, i64_w, i32_w]
                                        rfl
                                      refine pure_ (i := 25) (N := some 125) (v := ?_) (a' := ?_) #[true, true, true, true, true, true, true, true, true, true, true, true, true, true, true, true, true, true, true, true, true, true, true, true, true, true, false, false, false, false, false, false, false] rfl rfl (any_of HT_.out (by kernel_rfl)) (fun _ _ _ h => h) (Or.inl ⟨by rfl, ?_⟩) ?_ ?_
                                      rotate_left
                                      · intro w'
                                        go_simp
                                        with_reducible rfl
                                      rotate_left
                                      · simp only [Act.put, List.setIfInBounds_toArray, List.set_cons_zero, List.set_cons_succ, i64_w, i32_w]
                                        rfl
                                      refine pure_ (i := 26) (N := some 126) (v := ?_) (a' := ?_) #[true, true, true, true, true, true, true, true, true, true, true, true, true, true, true, true, true, true, true, true, true, true, true, true, true, true, true, false, false, false, false, false, false] rfl rfl (any_of HT_.out (by kernel_rfl)) (fun _ _ _ h => h) (Or.inl ⟨by rfl, ?_⟩) ?_ ?_
                                      rotate_left
                                      · intro w'
                                        go_simp
                                        with_reducible rfl
                                      rotate_left
                                      · simp only [Act.put, List.setIfInBounds_toArray, List.set_cons_zero, List.set_cons_succ, i64_w, i32_w]
                                        rfl
                                      refine pure_ (i := 27) (N := some 127) (v := ?_) (a' := ?_) #[true, true, true, true, true, true, true, true, true, true, true, true, true, true, true, true, true, true, true, true, true, true, true, true, true, true, true, true, false, false, false, false, false] rfl rfl (any_of HT_.out (by kernel_rfl)) (fun _ _ _ h => h) (Or.inl ⟨by rfl, ?_⟩) ?_ ?_
                                      rotate_left
                                      · intro w'
                                        go_simp
                                        with_reducible rfl
                                      rotate_left
                                      · simp only [Act.put, List.setIfInBounds_toArray, List.set_cons_zero, List.set_cons_succ, i64_w, i32_w]
                                        rfl
                                      refine pure_ (i := 28) (N := some 128) (v := ?_) (a' := ?_) #[true, true, true, true, true, true, true, true, true, true, true, true, true, true, true, true, true, true, true, true, true, true, true, true, true, true, true, true, true, false, false, false, false] rfl rfl (any_of HT_.out (by kernel_rfl)) (fun _ _ _ h => h) (Or.inl ⟨by rfl, ?_⟩) ?_ ?_
                                      rotate_left
                                      · intro w'
                                        go_simp
                                        with_reducible rfl
                                      rotate_left
                                      · simp only [Act.put, List.setIfInBounds_toArray, List.set_cons_zero, List.set_cons_succ, i64_w, i32_w]
                                        rfl
                                      refine pure_ (i := 29) (N := some 129) (v := ?_) (a' := ?_) #[true, true, true, true, true, true, true, true, true, true, true, true, true, true, true, true, true, true, true, true, true, true, true, true, true, true, true, true, true, true, false, false, false] rfl rfl (any_of HT_.out (by kernel_rfl)) (fun _ _ _ h => h) (Or.inl ⟨by rfl, ?_⟩) ?_ ?_
                                      rotate_left
                                      · intro w'
                                        go_simp
                                        with_reducible rfl
                                      rotate_left
                                      · simp only [Act.put, List.setIfInBounds_toArray, List.set_cons_zero, List.set_cons_succ, i64_w, i32_w]
                                        rfl
                                      refine pure_ (i := 30) (N := some 130) (v := ?_) (a' := ?_) #[true, true, true, true, true, true, true, true, true, true, true, true, true, true, true, true, true, true, true, true, true, true, true, true, true, true, true, true, true, true, true, false, false] rfl rfl (any_of HT_.out (by kernel_rfl)) (fun _ _ _ h => h) (Or.inl ⟨by rfl, ?_⟩) ?_ ?_
                                      rotate_left
                                      · intro w'
                                        go_simp
                                        with_reducible rfl
                                      rotate_left
                                      · simp only [Act.put, List.setIfInBounds_toArray, List.set_cons_zero, List.set_cons_succ, i64_w, i32_w]
                                        rfl
                                      refine pure_ (i := 31) (N := some 131) (v := ?_) (a' := ?_) #[true, true, true, true, true, true, true, true, true, true, true, true, true, true, true, true, true, true, true, true, true, true, true, true, true, true, true, true, true, true, true, true, false] rfl rfl (any_of HT_.out (by kernel_rfl)) (fun _ _ _ h => h) (Or.inl ⟨by rfl, ?_⟩) ?_ ?_
                                      rotate_left
                                      · intro w'
                                        go_simp
                                        with_reducible rfl
                                      rotate_left
                                      · simp only [Act.put, List.setIfInBounds_toArray, List.set_cons_zero, List.set_cons_succ, i64_w, i32_w]
                                        rfl
                                      refine pure_ (i := 32) (N := some 4) (v := ?_) (a' := ?_) #[true, true, true, true, true, true, true, true, true, true, true, true, true, true, true, true, true, true, true, true, true, true, true, true, true, true, true, true, true, true, true, true, true] rfl rfl (any_of HT_.out (by kernel_rfl)) (fun _ _ _ h => h) (Or.inl ⟨by rfl, ?_⟩) ?_ ?_
                                      rotate_left
                                      · intro w'
                                        go_simp
                                        with_reducible rfl
                                      rotate_left
                                      · simp only [Act.put, List.setIfInBounds_toArray, List.set_cons_zero, List.set_cons_succ, i64_w, i32_w]
                                        rfl
                                      refine done_ (done_of HT_.out (by kernel_rfl)) ?_
                                      try go_wp2
                                      go_ret
                                      exact ⟨by first | rfl | (simp [errW_none, errW_some] <;> rfl) | (simp [*, errW_none, errW_some] <;> rfl), by repeat (first | (with_reducible first | exact HB.out | apply below_alloc | apply pw_below_drewN | apply below_drew1 | refine below_set ?_ GE316.out | refine below_set ?_ GE317.out | refine below_set ?_ GE359.out) | exact HB.out)⟩
                                    · replace c89 := Bool.eq_false_iff.mpr c89
                                      subst c89
                                      have H1 : (some false) = some r := by rw [if_neg (show ¬ (false = true) by decide)] at H; exact H
                                      clear H
                                      have H := H1
                                      clear H1
                                      exact absurd ((Option.some.inj H).trans hr_.out) (by simp)
                                  · rw [if_neg c87] at H
                                    have c87b0 : (t358 == 0) = false := beq_eq_false_iff_ne.mpr c87
                                    have c87b1 : (t358 != 0) = true := bne_iff_ne.mpr c87
                                    exact absurd ((Option.some.inj H).trans hr_.out) (by simp)
                              · rw [if_neg c85] at H
                                have c85b0 : (t361 == t362) = false := by simpa using c85
                                (try (have c85b1 : decide (t361 = t362) = false := by simpa using c85))
                                (try (have c85b2 : (t361 == t362) = false := by simpa using c85))
                                (try (have c85b3 : ¬ (t361 = t362) := by simpa using c85))
                                clear c85
                                exact absurd ((Option.some.inj H).trans hr_.out) (by simp)
                            · replace c82 := Bool.eq_false_iff.mpr c82
                              subst c82
                              have H1 : (some false) = some r := by rw [if_neg (show ¬ (false = true) by decide)] at H; exact H
                              clear H
                              have H := H1
                              clear H1
                              exact absurd ((Option.some.inj H).trans hr_.out) (by simp)
                          · rw [if_neg c79] at H
                            exact absurd H (by simp)
  · replace c4 := Bool.eq_false_iff.mpr c4
    subst c4
    have H1 : (some false) = some r := by rw [if_neg (show ¬ (false = true) by decide)] at H; exact H
    clear H
    have H := H1
    clear H1
    exact absurd ((Option.some.inj H).trans hr_.out) (by simp)
end Go.Proofs.Ytdklanenmihpdaa.PL
namespace Go.Proofs.Ytdklanenmihpdaa.Hand
open Go.RowKit Go.Proofs.YtdklanenmihpdaaW.PrintWords Go.Proofs.YtdklanenmihpdaaW.PrintLast Go.Proofs.YtdklanenmihpdaaW.PrintMore Go.Proofs.Ytdklanenmihpdaa.PA Go.Proofs.Ytdklanenmihpdaa.PL
theorem enc_bytes {k s t : Int} {b : List Int} (h : MayR k s t b) (hb : Bytes255 b) : Bytes255 (encL k s t b) := by
  have hb1 := h.b1
  have hk : 0 ≤ k ∧ k < 256 := by rcases h.may.1 with h | h <;> omega
  intro x hx
  simp only [encL, bodyL, List.mem_cons, List.mem_append] at hx
  rcases hx with rfl | rfl | hx | rfl | hx | hx | hx | hx
  · omega
  · omega
  · exact four_bytes _ x hx
  · exact hk
  · exact varL_bytes s h.s0 h.s1 x hx
  · exact varL_bytes t h.t0 h.t1 x hx
  · exact varL_bytes _ (by omega) (by omega) x hx
  · exact hb x hx
theorem body_bytes {k s t : Int} {b : List Int} (h : MayR k s t b) (hb : Bytes255 b) : Bytes255 (bodyL k s t b) := fun x hx => enc_bytes h hb x (by simp [encL, hx])
theorem enc_small {k s t : Int} {b : List Int} (h : MayR k s t b) (hl : b.length ≤ 3000) : (encL k s t b).length ≤ 3040 ∧ (bodyL k s t b).length ≤ 3040 := by
  have h1 := varL_len s h.s0 h.s1
  have h2 := varL_len t h.t0 h.t1
  have h3 := varL_len (b.length : Int) (by omega) (by omega)
  simp only [encL, bodyL, fourL, List.length_cons, List.length_append, List.length_nil]
  omega
theorem enc_f (k : Nat) (a0 a1 a2 : Int) (l : List Int) (h1 : 0 ≤ a1 ∧ a1 < 18446744073709551616) (h2 : 0 ≤ a2 ∧ a2 < 18446744073709551616) (hb : Bytes255 l) (hl : l.length ≤ 3000) (hk : 40000 ≤ k) :
    rec_Encode.f k a0 a1 a2 l = some (if mayL a0 a1 a2 l.length then (encL a0 a1 a2 l, 0) else ([], 1)) := by
  unfold rec_Encode.f
  rw [may_f, Option.bind_some]
  by_cases hm : mayL a0 a1 a2 l.length
  case neg => rw [decide_eq_false hm, if_neg hm]; exact if_neg (by simp)
  rw [decide_eq_true hm, if_pos hm]
  refine (if_pos rfl).trans ?_
  have hM : MayR a0 a1 a2 l := ⟨hm, h1.1, h2.1⟩
  have hw : IntKind.u64.wrap (l.length : Int) = (l.length : Int) := IntWalk.u64_in _ (by omega)
  have h0 : a0 % 256 = a0 := by rcases hm.1 with h | h <;> omega
  have hs := enc_small hM hl
  have hbb := body_bytes hM hb
  have hj : bytes_Join.f [[a0], varL 9 a1, varL 9 a2, varL 9 (l.length : Int), l] [] = some (bodyL a0 a1 a2 l) := by
    have e : ([[a0], varL 9 a1, varL 9 a2, varL 9 (l.length : Int), l] : List (List Int)).flatten = bodyL a0 a1 a2 l := by simp [bodyL]
    unfold bytes_Join.f
    rw [e]
    exact if_pos ⟨by simp, by simp, rfl, List.all_eq_true.2 (fun x hx => byteB_iff.2 (hbb x hx)), by omega⟩
  have hc := wireCrc_any k (bodyL a0 a1 a2 l) (by omega) hbb (by omega)
  have hf : ∀ c, wire_Four.f c = some (fourL c) := fun _ => rfl
  rw [wireVar_any k (by omega) a1 h1.1 h1.2, Option.bind_some, wireVar_any k (by omega) a2 h2.1 h2.2, Option.bind_some, hw, wireVar_any k (by omega) _ (by omega) (by omega), Option.bind_some, h0, hj, Option.bind_some, Option.bind_some, hc, Option.bind_some, hf, Option.bind_some]
  refine (if_pos (by simp [fourL])).trans ?_
  rw [Option.bind_some]
  refine (if_pos (by simp [fourL]; omega)).trans ?_
  rfl
theorem dec_f (l : List Int) (a : Int) (hb : Bytes255 l) (hl : l.length < 140737488355328) (h0 : 0 ≤ a) (h1 : a ≤ l.length) : rec_Decode.f l a = some (decOut (decV l a)) := by
  unfold rec_Decode.f
  rw [if_pos ⟨List.all_eq_true.2 (fun x hx => byteB_iff.2 (hb x hx)), hl⟩, if_neg (by omega)]
theorem bytes_f {a b : List Int} (ha : Bytes255 a) (hb : Bytes255 b) : tikref_Bytes.f a b = some (decide (a = b)) := congrArg some (equal_bytes ha hb)
theorem same_f {k s t k' s' t' : Int} {b b' : List Int} (ha : Bytes255 b) (hb : Bytes255 b') : rec_Same.f k s t b k' s' t' b' = some (decide (k = k' ∧ s = s' ∧ t = t' ∧ b = b')) := by
  have e : bytes_Equal.f b b' = some (decide (b = b')) := congrArg some (equal_bytes ha hb)
  unfold rec_Same.f
  rw [e]
  by_cases h1 : k = k' <;> by_cases h2 : s = s' <;> by_cases h3 : t = t' <;> simp [h1, h2, h3]
theorem rfirst_f (k : Nat) (hk : 40000 ≤ k) : tiklaw15_first.f k = some true := by
  have hm : mayL 1 1 0 (([] : List Int).length : Int) := ⟨.inl rfl, by omega, by omega, by omega, by simp⟩
  have hM : MayR 1 1 0 [] := ⟨hm, by omega, by omega⟩
  have he := enc_f k 1 1 0 [] ⟨by omega, by omega⟩ ⟨by omega, by omega⟩ (by simp [Bytes255]) (by simp) hk
  rw [if_pos hm] at he
  have h1 : varL 9 1 = [1] := varL_small 9 1 (by omega) (by omega)
  have h0 : varL 9 0 = [0] := varL_small 9 0 (by omega) (by omega)
  have hlen : (encL 1 1 0 []).length = 10 := by simp [encL, bodyL, fourL, h1, h0]
  have hd := dec_enc [] [] hM
  rw [List.append_nil, List.nil_append] at hd
  have hdf := dec_f (encL 1 1 0 []) 0 (enc_bytes hM (by simp [Bytes255])) (by omega) (by omega) (by omega)
  have hd' : decV (encL 1 1 0 []) 0 = .ok (1, 1, 0, [], 10) := by
    have := hd
    rw [hlen] at this
    simpa using this
  rw [hd'] at hdf
  have hr0 : rd (encL 1 1 0 []) 0 = 167 := rfl
  have hr1 : rd (encL 1 1 0 []) 1 = 92 := rfl
  have hmm : rec_May.f 0 0 0 [] = some false := rfl
  unfold tiklaw15_first.f
  rw [he, Option.bind_some, hdf, Option.bind_some, hlen]
  dsimp only [decOut]
  rw [hr0, hr1, hmm]
  rfl
theorem enc_inj {k s t k' s' t' : Int} {b b' : List Int} (h : MayR k s t b) (h' : MayR k' s' t' b') : encL k s t b = encL k' s' t' b' ↔ (k = k' ∧ s = s' ∧ t = t' ∧ b = b') := by
  constructor
  · intro e
    have d1 := dec_enc [] [] h
    have d2 := dec_enc [] [] h'
    rw [e] at d1
    have := d1.symm.trans d2
    injection this with this
    injection this with e1 this
    injection this with e2 this
    injection this with e3 this
    injection this with e4 _
    exact ⟨e1, e2, e3, e4⟩
  · rintro ⟨rfl, rfl, rfl, rfl⟩; rfl
theorem enc_front {k s t k' s' t' : Int} {b b' : List Int} (h : MayR k s t b) (h' : MayR k' s' t' b') (hl : (encL k s t b).length < (encL k' s' t' b').length) : (encL k' s' t' b').take (encL k s t b).length ≠ encL k s t b := by
  intro e
  have d1 := dec_enc [] ((encL k' s' t' b').drop (encL k s t b).length) h
  have d2 := dec_enc [] [] h'
  have e2 : encL k s t b ++ (encL k' s' t' b').drop (encL k s t b).length = encL k' s' t' b' := by
    have := List.take_append_drop (encL k s t b).length (encL k' s' t' b')
    rwa [e] at this
  rw [e2] at d1
  rw [List.append_nil] at d2
  have := d1.symm.trans d2
  injection this with this
  injection this with e1 this
  injection this with e2 this
  injection this with e3 this
  injection this with e4 e5
  simp at e5
  omega
theorem front_bytes {l : List Int} (h : Bytes255 l) (n : Nat) : Bytes255 (l.take n) := fun x hx => h x (List.mem_of_mem_take hx)
theorem rcopy_f (l : List Int) (h : l.length < 140737488355328) : tikref_CopyBytes.f l = some l := copy_any l h
theorem rj3 (k : Nat) (hk : 40000 ≤ k) {a0 a1 a2 b0 b1 b2 : Int} {l m : List Int} (ha : MayR a0 a1 a2 l) (hb : MayR b0 b1 b2 m) (hl : Bytes255 l) (hm : Bytes255 m) (ll : l.length ≤ 3000) (lm : m.length ≤ 3000) :
    tiklaw15_RecApart.j3 (k + 1) (encL a0 a1 a2 l) (encL b0 b1 b2 m) false a0 a1 a2 l b0 b1 b2 m = some true := by
  have sa := enc_small ha ll
  have sb := enc_small hb lm
  have ba := enc_bytes ha hl
  have bb := enc_bytes hb hm
  have hd := dec_enc (encL a0 a1 a2 l) [] hb
  rw [List.append_nil] at hd
  have hdf := dec_f (encL a0 a1 a2 l ++ encL b0 b1 b2 m) ((encL a0 a1 a2 l).length : Int) (fun x hx => (List.mem_append.1 hx).elim (ba x) (bb x)) (by rw [List.length_append]; omega) (by omega) (by rw [List.length_append]; omega)
  rw [hd] at hdf
  have hw : wrap64 (((encL a0 a1 a2 l).length : Int) + ((encL b0 b1 b2 m).length : Int)) = ((encL a0 a1 a2 l).length : Int) + ((encL b0 b1 b2 m).length : Int) := IntWalk.wrap64_in _ (by omega)
  rw [tiklaw15_RecApart.j3, rcopy_f _ (by omega), Option.bind_some]
  refine (if_pos (by omega)).trans ?_
  rw [hdf, Option.bind_some, rfirst_f k hk, Option.bind_some]
  refine (if_pos rfl).trans ?_
  rw [bytes_f ba bb, Option.bind_some, same_f hl hm, Option.bind_some]
  have e1 : (decide (encL a0 a1 a2 l = encL b0 b1 b2 m) == decide (a0 = b0 ∧ a1 = b1 ∧ a2 = b2 ∧ l = m)) = true := by
    rw [beq_iff_eq]; exact decide_eq_decide.2 (enc_inj ha hb)
  refine (if_pos e1).trans ((if_neg (by simp)).trans ((if_pos rfl).trans ?_))
  dsimp only [decOut]
  rw [same_f hm hm, Option.bind_some]
  refine (if_pos (by simp)).trans ?_
  rw [hw]; simp
theorem recApart_any (k : Nat) (hk : 40000 ≤ k) (a0 a1 a2 b0 b1 b2 : Int) (l m : List Int) (h1 : 0 ≤ a1 ∧ a1 < 18446744073709551616) (h2 : 0 ≤ a2 ∧ a2 < 18446744073709551616) (h3 : 0 ≤ b1 ∧ b1 < 18446744073709551616) (h4 : 0 ≤ b2 ∧ b2 < 18446744073709551616) (hl : Bytes255 l) (hm : Bytes255 m) :
    tiklaw15_RecApart.f (k + 1 + 1 + 1 + 1) a0 a1 a2 l b0 b1 b2 m = some true := by
  have F : ∀ k', 40000 ≤ k' → ((tiklaw15_first.f k').bind fun t => some t) = some true := fun k' hk' => by rw [rfirst_f k' hk']; rfl
  unfold tiklaw15_RecApart.f
  rw [rfirst_f _ (by omega), Option.bind_some]
  refine (if_pos rfl).trans ?_
  have J0 : tiklaw15_RecApart.j0 (k + 1 + 1 + 1 + 1) true a0 a1 a2 l b0 b1 b2 m = some true := by
    rw [tiklaw15_RecApart.j0]; exact (if_pos rfl).trans (F _ (by omega))
  by_cases c1 : (l.length : Int) > 3000
  · exact (if_pos c1).trans J0
  refine (if_neg c1).trans ?_
  by_cases c2 : (m.length : Int) > 3000
  · rw [decide_eq_true c2]; exact J0
  rw [decide_eq_false c2, tiklaw15_RecApart.j0]
  refine (if_neg (by simp)).trans ?_
  rw [enc_f _ a0 a1 a2 l h1 h2 hl (by omega) (by omega), Option.bind_some, enc_f _ b0 b1 b2 m h3 h4 hm (by omega) (by omega), Option.bind_some, may_f, Option.bind_some]
  have J2 : ∀ x5 x7, tiklaw15_RecApart.j2 (k + 1 + 1) x5 x7 true a0 a1 a2 l b0 b1 b2 m = some true := fun x5 x7 => by
    rw [tiklaw15_RecApart.j2]; exact (if_pos rfl).trans (F _ (by omega))
  by_cases ma : mayL a0 a1 a2 l.length
  case neg =>
    rw [if_neg ma, decide_eq_false ma]
    refine (if_neg (by decide)).trans ((if_neg (by decide)).trans ((if_pos rfl).trans ?_))
    rw [tiklaw15_RecApart.j1]
    exact (if_neg (by simp)).trans ((if_neg (by decide)).trans (J2 _ _))
  rw [if_pos ma, decide_eq_true ma]
  refine (if_neg (by simp)).trans ((if_pos rfl).trans ?_)
  rw [tiklaw15_RecApart.j1]
  refine (if_neg (by simp)).trans ((if_pos rfl).trans ?_)
  by_cases mb : mayL b0 b1 b2 m.length
  case neg => rw [if_neg mb]; exact J2 _ _
  rw [if_pos mb]
  have Ha : MayR a0 a1 a2 l := ⟨ma, h1.1, h2.1⟩
  have Hb : MayR b0 b1 b2 m := ⟨mb, h3.1, h4.1⟩
  have ba := enc_bytes Ha hl
  have bb := enc_bytes Hb hm
  have J3 := rj3 k hk Ha Hb hl hm (by omega) (by omega)
  show tiklaw15_RecApart.j2 (k + 1 + 1) (encL a0 a1 a2 l) (encL b0 b1 b2 m) false a0 a1 a2 l b0 b1 b2 m = some true
  rw [tiklaw15_RecApart.j2]
  refine (if_neg (by simp)).trans ?_
  have fa : ((encL a0 a1 a2 l).length : Int) < ((encL b0 b1 b2 m).length : Int) → tikref_Bytes.f ((encL b0 b1 b2 m).take ((encL a0 a1 a2 l).length : Int).toNat) (encL a0 a1 a2 l) = some false := fun hlt => by
    rw [bytes_f (front_bytes bb _) ba, decide_eq_false (by rw [Int.toNat_natCast]; exact enc_front Ha Hb (by omega))]
  have fb : ((encL b0 b1 b2 m).length : Int) < ((encL a0 a1 a2 l).length : Int) → tikref_Bytes.f ((encL a0 a1 a2 l).take ((encL b0 b1 b2 m).length : Int).toNat) (encL b0 b1 b2 m) = some false := fun hlt => by
    rw [bytes_f (front_bytes ba _) bb, decide_eq_false (by rw [Int.toNat_natCast]; exact enc_front Hb Ha (by omega))]
  by_cases q1 : ((encL a0 a1 a2 l).length : Int) < ((encL b0 b1 b2 m).length : Int)
  · refine (if_pos q1).trans ((if_pos (by omega)).trans ((if_pos (by omega)).trans ?_))
    rw [fa q1, Option.bind_some]
    refine (if_neg (by simp)).trans ((if_neg (by omega)).trans J3)
  refine (if_neg q1).trans ?_
  by_cases q2 : ((encL b0 b1 b2 m).length : Int) < ((encL a0 a1 a2 l).length : Int)
  · refine (if_pos q2).trans ((if_pos (by omega)).trans ((if_pos (by omega)).trans ?_))
    rw [fb q2, Option.bind_some]
    exact J3
  exact (if_neg q2).trans J3
end Go.Proofs.Ytdklanenmihpdaa.Hand
namespace Go.Proofs.Ytdklanenmihpdaa.RowRecApart
open Go.ChangeShapes Go.WideShapes Go.ChangeAt Go.RowKit
open Go.ChangeMaps (open_string shut_string)
open Go.Proofs.YtdklanenmihpdaaW.PrintWords Go.Proofs.Ytdklanenmihpdaa.Opens
open Go.Proofs.Ytdklanenmihpdaa.Hand
set_option linter.unusedVariables false
set_option linter.unusedSimpArgs false
theorem ownK : ownKnob Try.prog.godebug = none := by kernel_rfl
theorem laidOut : laidOutB Try.prog = true := by kernel_rfl
set_option maxRecDepth 100000 in
theorem lifted (os : Os) (started : os.Started) (H : Type) (enc : TypeId × Value → H) :
    ReturnsInHanded {} Try.checked os 5 .any (Rows.recApartSpec.pre6 enc Try.prog Try.f5 Rows.recApartRow.domain false) (Rows.recApartSpec.post enc Try.prog Try.f5 false true false false) := by
  refine returnsInHanded_of_change_sized (C := Try.checked) ownK started (by kernel_rfl) Try.func5
    (ChangeSpec.witness6 (enc := enc) (C := Try.checked) false ⟨#[], #[.agg #[.int .i64 0, .int .u64 0, .int .u64 0, .slice none 0 0], .agg #[.int .i64 0, .int .u64 0, .int .u64 0, .slice none 0 0]], []⟩ 8 (by kernel_rfl) (by kernel_rfl) (by kernel_rfl) (by kernel_rfl)) ?_
  intro W base args ds gs before hval0 hW hcnd hsz0 _
  have hsz : (DataW.weightsEach Try.prog (Try.f5.params.toList ++ Rows.recApartSpec.plain.varTypes Try.prog) (ds ++ gs)).all (· ≤ reachBytes) = true := hsz0
  have hval : ∀ (j : Nat) t v, Try.f5.params[j]? = some t → args[j]? = some v → Value.okWide Try.prog W .any base t v := hval0
  have hW' := hW
  obtain ⟨p, q, hA0, hV, rfl, hfz, hnd⟩ := hW
  have hA : DataW.TrodAll enc Try.prog W 0 (fun _ => true) true Try.f5.params.toList args.toList ds p := hA0
  rw [Try.params5] at hA hval hsz
  obtain ⟨v0, vs0, d0, ds0, p0, q0, hargs, rfl, rfl, h0, r0⟩ := trodAll_cons hA
  obtain ⟨v1, vs1, d1, ds1, p1, q1, rfl, rfl, rfl, h1, r1⟩ := trodAll_cons r0
  obtain ⟨rfl, rfl, rfl⟩ := trodAll_nil r1
  obtain rfl : args = #[v0, v1] := by cases args; simp_all
  obtain ⟨rfl, rfl⟩ := trodVars_none hV
  have k0 := h0
  have lt0 : ∀ x ∈ p0, x.block < W.heap.size := by obtain ⟨m, hm⟩ := k0; exact DataW.trod_lt m _ _ _ hm
  obtain ⟨⟨c0_0, ⟨c0_1, ⟨c0_2, c0_3⟩⟩⟩, ⟨_, _, gc0_2, fc0_0, ⟨_, _, gc0_1, fc0_1, ⟨_, _, gc0_0, fc0_2, fc0_3⟩⟩⟩, u0⟩ := open_arg (o_struct Try.underlying25 (by kernel_rfl) (f_cons rfl (by kernel_rfl) (o_int Try.underlying3) (f_cons rfl (by kernel_rfl) (o_int Try.underlying22) (f_cons rfl (by kernel_rfl) (o_int Try.underlying22) (f_last rfl (by kernel_rfl) (o_slice Try.underlying23 (by kernel_rfl) (o_int Try.underlying5))))))) h0
  obtain ⟨A0_3, s0_3, fc0_3, hc0_3, hC0_3⟩ := fc0_3
  have e0 : v0.cells.toList = _ := gc0_2
  simp only [Kd.int, Kd.bool, Kd.string, kFloat, Kd.scalar] at fc0_0 fc0_1 fc0_2 fc0_3
  simp only [gc0_0, gc0_1, fc0_0, fc0_1, fc0_2, fc0_3, List.cons_append, List.nil_append] at e0
  have e0' := agg_of Try.underlying25 (hval 0 25 v0 rfl rfl) e0
  subst e0'
  have k1 := h1
  have lt1 : ∀ x ∈ p1, x.block < W.heap.size := by obtain ⟨m, hm⟩ := k1; exact DataW.trod_lt m _ _ _ hm
  obtain ⟨⟨c1_0, ⟨c1_1, ⟨c1_2, c1_3⟩⟩⟩, ⟨_, _, gc1_2, fc1_0, ⟨_, _, gc1_1, fc1_1, ⟨_, _, gc1_0, fc1_2, fc1_3⟩⟩⟩, u1⟩ := open_arg (o_struct Try.underlying25 (by kernel_rfl) (f_cons rfl (by kernel_rfl) (o_int Try.underlying3) (f_cons rfl (by kernel_rfl) (o_int Try.underlying22) (f_cons rfl (by kernel_rfl) (o_int Try.underlying22) (f_last rfl (by kernel_rfl) (o_slice Try.underlying23 (by kernel_rfl) (o_int Try.underlying5))))))) h1
  obtain ⟨A1_3, s1_3, fc1_3, hc1_3, hC1_3⟩ := fc1_3
  have e1 : v1.cells.toList = _ := gc1_2
  simp only [Kd.int, Kd.bool, Kd.string, kFloat, Kd.scalar] at fc1_0 fc1_1 fc1_2 fc1_3
  simp only [gc1_0, gc1_1, fc1_0, fc1_1, fc1_2, fc1_3, List.cons_append, List.nil_append] at e1
  have e1' := agg_of Try.underlying25 (hval 1 25 v1 rfl rfl) e1
  subst e1'
  clear hA0 hval0
  refine (PL.tiklaw15_RecApart.calls 40004 c0_0 c0_1 c0_2 A0_3 s0_3 c0_3 c1_0 c1_1 c1_2 A1_3 s1_3 c1_3 true W hC0_3 hc0_3 hC1_3 hc1_3 ⟨rfl⟩ (recApart_any 40000 (Nat.le_refl _) c0_0 c0_1 c0_2 c1_0 c1_1 c1_2 c0_3 c1_3 (by have := bounds_u64 (show (Lit.int .u64 c0_1).wf = true from u0.2.1); omega) (by have := bounds_u64 (show (Lit.int .u64 c0_2).wf = true from u0.2.2.1); omega) (by have := bounds_u64 (show (Lit.int .u64 c1_1).wf = true from u1.2.1); omega) (by have := bounds_u64 (show (Lit.int .u64 c1_2).wf = true from u1.2.2.1); omega) (fun x hx => by have := bounds_u8 (u0.2.2.2.2 x hx); omega) (fun x hx => by have := bounds_u8 (u1.2.2.2.2 x hx); omega))).mono fun e W' ⟨he, bel⟩ => ?_
  subst he
  exact ⟨_, rfl, _, _, _, [], _, [], hW', trodAll_mk1 (shut_bool Try.underlying4 _), (trodAll_cons_mk (Below.trod laidOut (by kernel_rfl) (of_decide_eq_true (by kernel_rfl)) k0 bel lt0) (trodAll_cons_mk (Below.trod laidOut (by kernel_rfl) (of_decide_eq_true (by kernel_rfl)) k1 bel lt1) trodAll_mk0)), rfl, bel.frame _, fun h => by cases h⟩
theorem over : Rows.recApartRow.holds Try.pinned (OpenSpec.ofChange Rows.recApartSpec) :=
  OpenClaim.holds_of_wide 5 Try.f5 rfl rfl rfl rfl rfl rfl rfl ⟨rfl, rfl, rfl, rfl, rfl⟩ rfl rfl rfl rfl rfl (by kernel_rfl) Try.func5 (by kernel_rfl)
    (of_decide_eq_true (by kernel_rfl)) (by unfold Func.isWrapper; first | (rw [if_pos (by decide +kernel)]; kernel_rfl) | (rw [if_neg (by decide +kernel)]; exact ⟨rfl, rfl⟩))
    (fun os started H enc _ => lifted os started H enc)
#print axioms over
end Go.Proofs.Ytdklanenmihpdaa.RowRecApart
namespace Go.Proofs.Ytdklanenmihpdaa
theorem recApart_holds : Rows.RecApartSaid := RowRecApart.over
end Go.Proofs.Ytdklanenmihpdaa
