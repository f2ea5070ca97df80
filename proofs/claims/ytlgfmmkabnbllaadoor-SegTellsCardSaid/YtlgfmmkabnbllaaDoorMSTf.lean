/- Texts of this claim, put together. -/
import Derived.Test.YtlgfmmkabnbllaaDoorMSTb
import Derived.Test.YtlgfmmkabnbllaaDoorMSTd
import Derived.Test.YtlgfmmkabnbllaaDoorMSTe
set_option linter.unusedVariables false
set_option linter.unusedSimpArgs false
namespace Go.Proofs.YtlgfmmkabnbllaaDoor.PS
open Go.RowKit Go.Proofs.YtlgfmmkabnbllaaDoorW.PrintWords Go.Proofs.YtlgfmmkabnbllaaDoorW.PrintLast Go.Proofs.YtlgfmmkabnbllaaDoorW.PrintMore
attribute [local go_sem] max2_int min2_int max_two min_two max_three min_three max_four min_four
open Go.Proofs.YtlgfmmkabnbllaaDoor.Hand
open Go.Proofs.YtlgfmmkabnbllaaDoor.PA
set_option linter.unusedVariables false
set_option linter.unusedSimpArgs false
mutual
def tikref13_SameScan.j0 : Nat → Bool → Int → Int → List (S127) → Int → Int → Int → List (S127) → Int → Option (Bool)
 | 0, _, _, _, _, _, _, _, _, _ => none
 | k + 1, x33, x259000, x259001, x259002, x259003, x260000, x260001, x260002, x260003 => if x33 = true then (some false) else (tikref13_SameScan.l0 k 0 x259000 x259001 x259002 x259003 x260000 x260001 x260002 x260003)
def tikref13_SameScan.l0 : Nat → Int → Int → Int → List (S127) → Int → Int → Int → List (S127) → Int → Option (Bool)
 | 0, _, _, _, _, _, _, _, _, _ => none
 | k + 1, x5, x259000, x259001, x259002, x259003, x260000, x260001, x260002, x260003 => if x5 < (x259002.length : Int) then (if 0 ≤ x5 then (if x5 < (x260002.length : Int) then (if ((rd_T127 x259002 x5).f1) = ((rd_T127 x260002 x5).f1) then (if ((rd_T127 x259002 x5).f2) = ((rd_T127 x260002 x5).f2) then ((tikref13_SameRecord.f ((rd_T127 x259002 x5).f0.f0) ((rd_T127 x259002 x5).f0.f1) ((rd_T127 x259002 x5).f0.f2) ((rd_T127 x259002 x5).f0.f3) ((rd_T127 x260002 x5).f0.f0) ((rd_T127 x260002 x5).f0.f1) ((rd_T127 x260002 x5).f0.f2) ((rd_T127 x260002 x5).f0.f3)).bind fun t266 => (if t266 = true then (tikref13_SameScan.l0 k (wrap64 (x5 + 1)) x259000 x259001 x259002 x259003 x260000 x260001 x260002 x260003) else (some false))) else (some false)) else (some false)) else (none)) else (none)) else (some true)
end
def tikref13_SameScan.f (k : Nat) (a0_0 : Int) (a0_1 : Int) (l0_2 : List (S127)) (a0_3 : Int) (a1_0 : Int) (a1_1 : Int) (l1_2 : List (S127)) (a1_3 : Int) : Option (Bool) := if a0_0 = a1_0 then (if a0_1 = a1_1 then (if a0_3 = a1_3 then (tikref13_SameScan.j0 k ((l0_2.length : Int) != (l1_2.length : Int)) a0_0 a0_1 l0_2 a0_3 a1_0 a1_1 l1_2 a1_3) else (tikref13_SameScan.j0 k true a0_0 a0_1 l0_2 a0_3 a1_0 a1_1 l1_2 a1_3)) else (tikref13_SameScan.j0 k true a0_0 a0_1 l0_2 a0_3 a1_0 a1_1 l1_2 a1_3)) else (tikref13_SameScan.j0 k true a0_0 a0_1 l0_2 a0_3 a1_0 a1_1 l1_2 a1_3)
def tikref13_SameScan.T6 : Bool × List (List Nat × List Nat) := (true, [([], []), ([0], [0]), ([], []), ([1, 2], [1, 2]), ([3], [3]), ([4], [4]), ([], []), ([6], [6]), ([], []), ([7, 8], [7, 8]), ([9], [9]), ([10], [10]), ([5, 11], [5, 11]), ([12], [12]), ([13], [13]), ([14, 13], [13, 14]), ([13], [13]), ([15, 16, 13], [13, 15, 16]), ([17, 13], [13, 17]), ([18, 13], [13, 18]), ([13], [13]), ([20, 13], [13, 20]), ([13], [13]), ([21, 22, 13], [13, 21, 22]), ([23, 13], [13, 23]), ([24, 13], [13, 24]), ([19, 25, 13], [13, 19, 25]), ([13, 26], [13, 26]), ([27, 13], [27]), ([28], [28]), ([29, 28], [28, 29]), ([28], [28]), ([30, 31, 28], [28, 30, 31]), ([32, 28], [28, 32]), ([33, 28], [28, 33]), ([28], [28]), ([35, 28], [28, 35]), ([28], [28]), ([36, 37, 28], [28, 36, 37]), ([38, 28], [28, 38]), ([39, 28], [28, 39]), ([34, 40, 28, 28], [28, 34, 40]), ([41, 28], [28, 41]), ([28, 42], [28, 42])])
def tikref13_SameScan.B6 : List Nat := [0, 1, 0, 7, 15, 31, 0, 64, 0, 448, 960, 1984, 4095, 8191, 16383, 32767, 16383, 131071, 262143, 524287, 16383, 1064959, 16383, 7356415, 15745023, 32522239, 67108863, 134217727, 268435455, 536870911, 1073741823, 536870911, 4294967295, 8589934591, 17179869183, 536870911, 34896609279, 536870911, 241055039487, 515932946431, 1065688760319, 2199023255551, 4398046511103, 8796093022207]
theorem tikref13_SameScan.tab6 : rtab .any (opsOf Tryd.f39 6) = tikref13_SameScan.T6 := by kernel_rfl
theorem tikref13_SameScan.bits6 : waitsOk tikref13_SameScan.T6.2 tikref13_SameScan.B6 = true := by kernel_rfl
set_option maxHeartbeats 8000000 in
set_option maxRecDepth 100000 in
theorem tikref13_SameScan.calls (k : Nat) (a0_0 : Int) (a0_1 : Int) (A0_2 : Option Addr) (c0_2 : Nat) (l0_2 : List (S127)) (a0_3 : Int) (a1_0 : Int) (a1_1 : Int) (A1_2 : Option Addr) (c1_2 : Nat) (l1_2 : List (S127)) (a1_3 : Int) (r : Bool) (w : World) (hr0_2 : Kd.C k127 w A0_2 l0_2.length l0_2) (hc0_2 : l0_2.length ≤ c0_2) (hr1_2 : Kd.C k127 w A1_2 l1_2.length l1_2) (hc1_2 : l1_2.length ≤ c1_2) (hr_ : Aside0 (r = true)) (h : tikref13_SameScan.f k a0_0 a0_1 l0_2 a0_3 a1_0 a1_1 l1_2 a1_3 = some r) :
  Calls Tryd.prog 39 #[.agg #[.int .i64 a0_0, .int .u64 a0_1, .slice A0_2 l0_2.length c0_2, .int .i64 a0_3], .agg #[.int .i64 a1_0, .int .u64 a1_1, .slice A1_2 l1_2.length c1_2, .int .i64 a1_3]] w fun e w' => e = .returned (.bool r) ∧ Below w.heap.size w w' := by
 have hu77 := Tryd.underlying77; have hu123 := Tryd.underlying123; have HR0_2 := Aside0.mk hr0_2; have HC0_2 := Aside0.mk hc0_2; clear hr0_2 hc0_2; have HR1_2 := Aside0.mk hr1_2; have HC1_2 := Aside0.mk hc1_2; clear hr1_2 hc1_2; have HB := Aside0.mk (Below.refl w.heap.size w); have H : (if a0_0 = a1_0 then (if a0_1 = a1_1 then (if a0_3 = a1_3 then (tikref13_SameScan.j0 k ((l0_2.length : Int) != (l1_2.length : Int)) a0_0 a0_1 l0_2 a0_3 a1_0 a1_1 l1_2 a1_3) else (tikref13_SameScan.j0 k true a0_0 a0_1 l0_2 a0_3 a1_0 a1_1 l1_2 a1_3)) else (tikref13_SameScan.j0 k true a0_0 a0_1 l0_2 a0_3 a1_0 a1_1 l1_2 a1_3)) else (tikref13_SameScan.j0 k true a0_0 a0_1 l0_2 a0_3 a1_0 a1_1 l1_2 a1_3)) = some r := h; clear h; have HC3 := Aside0.mk H; clear H
 go_enter Tryd.func39, Tryd.ntmps39
 go_upto_region 1 with (first | ((with_reducible refine gate_dst (N := 2) rfl ?_); (try (refine gate_guard (by rfl) ?_; dsimp only)); refine box_event ?hg (N := 2) ?hd (cs := #[.int .i64 a0_0, .int .u64 a0_1, .slice A0_2 l0_2.length c0_2, .int .i64 a0_3]) (t := 77) ?hr ?_; (case hd => rfl); (case hg => rfl); (case hr => first | (go_simp; done) | (go_simp; rfl)); intro gb258 hg w4 hbox hb; have n0_ := Aside0.mk (below_step (hx_ HB) hb); have n1_ := Aside0.mk (hbox); have n2_ := Aside0.mk ((by rw [hg]; exact (below_size (hx_ HB)) : w.heap.size ≤ gb258)); have n3_ := Aside0.mk ((by rw [hg]; exact (below_size (hx_ HB)) : w.heap.size ≤ gb258)); clear HB; have HB := n0_; have BK258 := n1_; have GW258 := n2_; have GE258 := n3_; clear n0_ n1_ n2_ n3_; clear hb hbox hg) | ((with_reducible refine gate_dst (N := 3) rfl ?_); (try (refine gate_guard (by rfl) ?_; dsimp only)); refine box_event ?hg (N := 3) ?hd (cs := #[.int .i64 a1_0, .int .u64 a1_1, .slice A1_2 l1_2.length c1_2, .int .i64 a1_3]) (t := 77) ?hr ?_; (case hd => rfl); (case hg => rfl); (case hr => first | (go_simp; done) | (go_simp; rfl)); intro gb259 hg w5 hbox hb; have n0_ := Aside0.mk (blk_below (g := gb258) (o := .cells #[.int .i64 a0_0, .int .u64 a0_1, .slice A0_2 l0_2.length c0_2, .int .i64 a0_3] 77 (0, 0)) (bx_ BK258) hb); have n1_ := Aside0.mk (below_step (by repeat (first | (with_reducible first | exact HB.out | apply yA | apply yN | apply yD | refine yS ?_ GE258.out) | exact HB.out)) hb); have n2_ := Aside0.mk (hbox); have n3_ := Aside0.mk ((by rw [hg]; exact (below_size (by repeat (first | (with_reducible first | exact HB.out | apply yA | apply yN | apply yD | refine yS ?_ GE258.out) | exact HB.out))) : w.heap.size ≤ gb259)); have n4_ := Aside0.mk ((by rw [hg]; exact (below_size (by repeat (first | (with_reducible first | exact HB.out | apply yA | apply yN | apply yD | refine yS ?_ GE258.out) | exact HB.out))) : w.heap.size ≤ gb259)); have n5_ := Aside0.mk ((by rw [hg]; exact Nat.ne_of_lt (blk_lt (g := gb258) (o := .cells #[.int .i64 a0_0, .int .u64 a0_1, .slice A0_2 l0_2.length c0_2, .int .i64 a0_3] 77 (0, 0)) (bx_ BK258)) : gb258 ≠ gb259)); have n6_ := Aside0.mk ((by rw [hg]; exact Nat.ne_of_gt (blk_lt (g := gb258) (o := .cells #[.int .i64 a0_0, .int .u64 a0_1, .slice A0_2 l0_2.length c0_2, .int .i64 a0_3] 77 (0, 0)) (bx_ BK258)) : gb259 ≠ gb258)); clear BK258; clear HB; have BK258 := n0_; have HB := n1_; have BK259 := n2_; have GW259 := n3_; have GE259 := n4_; have NB258_259 := n5_; have NB259_258 := n6_; clear n0_ n1_ n2_ n3_ n4_ n5_ n6_; clear hb hbox hg))
 (try simp only [Act.put, List.setIfInBounds_toArray, List.set_cons_zero, List.set_cons_succ])
 go_cut [33] (fun v33 wc => ∃ (kq : Nat) (x33_2 : Bool), v33 = .bool x33_2 ∧ Aside0 (tikref13_SameScan.j0 kq x33_2 a0_0 a0_1 l0_2 a0_3 a1_0 a1_1 l1_2 a1_3 = some r) ∧ Aside0 (kq ≤ k) ∧ Aside0 (wc.heap[gb258]? = some (.cells #[.int .i64 a0_0, .int .u64 a0_1, (.slice A0_2 l0_2.length c0_2), .int .i64 a0_3] 77 (0, 0))) ∧ Aside0 (wc.heap[gb259]? = some (.cells #[.int .i64 a1_0, .int .u64 a1_1, (.slice A1_2 l1_2.length c1_2), .int .i64 a1_3] 77 (0, 0))) ∧ Aside0 (Below w.heap.size w wc))
 case first =>
  have H := HC3.out; clear HC3
  by_cases c6 : a0_0 = a1_0
  rotate_left
  ·rw [if_neg c6] at H
   have c6b0 : (a0_0 == a1_0) = false := beq_eq_false_iff_ne.mpr c6; have c6b1 : (a0_0 != a1_0) = true := bne_iff_ne.mpr c6; (first | rw [c6b0] | (simp only [i64_w, i32_w]; rw [c6b0]) | skip); have H' := Aside0.mk H; clear H; have hnb18 := NB258_259.out; have hnc18 := NB259_258.out; have hcz19_0 : w5.cell? ⟨gb258, 0, none⟩ = some (.int .i64 a0_0) := (blk_cell BK258.out 0).trans rfl; have hcz19_1 : w5.cell? ⟨gb258, 1, none⟩ = some (.int .u64 a0_1) := (blk_cell BK258.out 1).trans rfl; have hcz19_2 : w5.cell? ⟨gb258, 2, none⟩ = some (.slice A0_2 l0_2.length c0_2) := (blk_cell BK258.out 2).trans rfl; have hcz19_3 : w5.cell? ⟨gb258, 3, none⟩ = some (.int .i64 a0_3) := (blk_cell BK258.out 3).trans rfl; have hfz19_0 := blk_frozen BK258.out 0; have hfz19_1 := blk_frozen BK258.out 1; have hfz19_2 := blk_frozen BK258.out 2; have hfz19_3 := blk_frozen BK258.out 3; have hcz20_0 : w5.cell? ⟨gb259, 0, none⟩ = some (.int .i64 a1_0) := (blk_cell BK259.out 0).trans rfl; have hcz20_1 : w5.cell? ⟨gb259, 1, none⟩ = some (.int .u64 a1_1) := (blk_cell BK259.out 1).trans rfl; have hcz20_2 : w5.cell? ⟨gb259, 2, none⟩ = some (.slice A1_2 l1_2.length c1_2) := (blk_cell BK259.out 2).trans rfl; have hcz20_3 : w5.cell? ⟨gb259, 3, none⟩ = some (.int .i64 a1_3) := (blk_cell BK259.out 3).trans rfl; have hfz20_0 := blk_frozen BK259.out 0; have hfz20_1 := blk_frozen BK259.out 1; have hfz20_2 := blk_frozen BK259.out 2; have hfz20_3 := blk_frozen BK259.out 3
   go_wp2
   go_meet
   case rel => exact ⟨_, (true), (by first | rfl | (simp; done) | (simp [*]; done)), H', ⟨by first | omega | exact Nat.le_refl _⟩, ⟨by (with_reducible repeat first | apply zN | apply zD | apply zA); exact BK258.out⟩, ⟨by (with_reducible repeat first | apply zN | apply zD | apply zA); exact BK259.out⟩, ⟨by repeat (first | (with_reducible first | exact HB.out | apply yA | apply yN | apply yD | refine yS ?_ GE258.out | refine yS ?_ GE259.out) | exact HB.out)⟩⟩
  (rw [if_pos c6] at H); have c6b0 : (a0_0 == a1_0) = true := beq_iff_eq.mpr c6; have c6b1 : (a0_0 != a1_0) = false := bne_eq_false_iff_eq.mpr c6; clear c6; (first | rw [c6b0] | (simp only [i64_w, i32_w]; rw [c6b0]) | skip)
  by_cases c7 : a0_1 = a1_1
  rotate_left
  ·rw [if_neg c7] at H
   have c7b0 : (a0_1 == a1_1) = false := beq_eq_false_iff_ne.mpr c7; have c7b1 : (a0_1 != a1_1) = true := bne_iff_ne.mpr c7; have H' := Aside0.mk H; clear H; have hnb15 := NB258_259.out; have hnc15 := NB259_258.out; have hcz16_0 : w5.cell? ⟨gb258, 0, none⟩ = some (.int .i64 a0_0) := (blk_cell BK258.out 0).trans rfl; have hcz16_1 : w5.cell? ⟨gb258, 1, none⟩ = some (.int .u64 a0_1) := (blk_cell BK258.out 1).trans rfl; have hcz16_2 : w5.cell? ⟨gb258, 2, none⟩ = some (.slice A0_2 l0_2.length c0_2) := (blk_cell BK258.out 2).trans rfl; have hcz16_3 : w5.cell? ⟨gb258, 3, none⟩ = some (.int .i64 a0_3) := (blk_cell BK258.out 3).trans rfl; have hfz16_0 := blk_frozen BK258.out 0; have hfz16_1 := blk_frozen BK258.out 1; have hfz16_2 := blk_frozen BK258.out 2; have hfz16_3 := blk_frozen BK258.out 3; have hcz17_0 : w5.cell? ⟨gb259, 0, none⟩ = some (.int .i64 a1_0) := (blk_cell BK259.out 0).trans rfl; have hcz17_1 : w5.cell? ⟨gb259, 1, none⟩ = some (.int .u64 a1_1) := (blk_cell BK259.out 1).trans rfl; have hcz17_2 : w5.cell? ⟨gb259, 2, none⟩ = some (.slice A1_2 l1_2.length c1_2) := (blk_cell BK259.out 2).trans rfl; have hcz17_3 : w5.cell? ⟨gb259, 3, none⟩ = some (.int .i64 a1_3) := (blk_cell BK259.out 3).trans rfl; have hfz17_0 := blk_frozen BK259.out 0; have hfz17_1 := blk_frozen BK259.out 1; have hfz17_2 := blk_frozen BK259.out 2; have hfz17_3 := blk_frozen BK259.out 3
   go_wp2
   go_meet
   case rel => exact ⟨_, (true), (by first | rfl | (simp; done) | (simp [*]; done)), H', ⟨by first | omega | exact Nat.le_refl _⟩, ⟨by (with_reducible repeat first | apply zN | apply zD | apply zA); exact BK258.out⟩, ⟨by (with_reducible repeat first | apply zN | apply zD | apply zA); exact BK259.out⟩, ⟨by repeat (first | (with_reducible first | exact HB.out | apply yA | apply yN | apply yD | refine yS ?_ GE258.out | refine yS ?_ GE259.out) | exact HB.out)⟩⟩
  (rw [if_pos c7] at H); have c7b0 : (a0_1 == a1_1) = true := beq_iff_eq.mpr c7; have c7b1 : (a0_1 != a1_1) = false := bne_eq_false_iff_eq.mpr c7; clear c7
  by_cases c8 : a0_3 = a1_3
  ·rw [if_pos c8] at H
   have c8b0 : (a0_3 == a1_3) = true := beq_iff_eq.mpr c8; have c8b1 : (a0_3 != a1_3) = false := bne_eq_false_iff_eq.mpr c8; clear c8; have H' := Aside0.mk H; clear H; have hnb9 := NB258_259.out; have hnc9 := NB259_258.out; have hcz10_0 : w5.cell? ⟨gb258, 0, none⟩ = some (.int .i64 a0_0) := (blk_cell BK258.out 0).trans rfl; have hcz10_1 : w5.cell? ⟨gb258, 1, none⟩ = some (.int .u64 a0_1) := (blk_cell BK258.out 1).trans rfl; have hcz10_2 : w5.cell? ⟨gb258, 2, none⟩ = some (.slice A0_2 l0_2.length c0_2) := (blk_cell BK258.out 2).trans rfl; have hcz10_3 : w5.cell? ⟨gb258, 3, none⟩ = some (.int .i64 a0_3) := (blk_cell BK258.out 3).trans rfl; have hfz10_0 := blk_frozen BK258.out 0; have hfz10_1 := blk_frozen BK258.out 1; have hfz10_2 := blk_frozen BK258.out 2; have hfz10_3 := blk_frozen BK258.out 3; have hcz11_0 : w5.cell? ⟨gb259, 0, none⟩ = some (.int .i64 a1_0) := (blk_cell BK259.out 0).trans rfl; have hcz11_1 : w5.cell? ⟨gb259, 1, none⟩ = some (.int .u64 a1_1) := (blk_cell BK259.out 1).trans rfl; have hcz11_2 : w5.cell? ⟨gb259, 2, none⟩ = some (.slice A1_2 l1_2.length c1_2) := (blk_cell BK259.out 2).trans rfl; have hcz11_3 : w5.cell? ⟨gb259, 3, none⟩ = some (.int .i64 a1_3) := (blk_cell BK259.out 3).trans rfl; have hfz11_0 := blk_frozen BK259.out 0; have hfz11_1 := blk_frozen BK259.out 1; have hfz11_2 := blk_frozen BK259.out 2; have hfz11_3 := blk_frozen BK259.out 3
   go_wp2
   go_meet
   case rel => exact ⟨_, (((l0_2.length : Int) != (l1_2.length : Int))), (by first | rfl | (simp; done) | (simp [*]; done)), H', ⟨by first | omega | exact Nat.le_refl _⟩, ⟨by (with_reducible repeat first | apply zN | apply zD | apply zA); exact BK258.out⟩, ⟨by (with_reducible repeat first | apply zN | apply zD | apply zA); exact BK259.out⟩, ⟨by repeat (first | (with_reducible first | exact HB.out | apply yA | apply yN | apply yD | refine yS ?_ GE258.out | refine yS ?_ GE259.out) | exact HB.out)⟩⟩
  (rw [if_neg c8] at H); have c8b0 : (a0_3 == a1_3) = false := beq_eq_false_iff_ne.mpr c8; have c8b1 : (a0_3 != a1_3) = true := bne_iff_ne.mpr c8; have H' := Aside0.mk H; clear H; have hnb12 := NB258_259.out; have hnc12 := NB259_258.out; have hcz13_0 : w5.cell? ⟨gb258, 0, none⟩ = some (.int .i64 a0_0) := (blk_cell BK258.out 0).trans rfl; have hcz13_1 : w5.cell? ⟨gb258, 1, none⟩ = some (.int .u64 a0_1) := (blk_cell BK258.out 1).trans rfl; have hcz13_2 : w5.cell? ⟨gb258, 2, none⟩ = some (.slice A0_2 l0_2.length c0_2) := (blk_cell BK258.out 2).trans rfl; have hcz13_3 : w5.cell? ⟨gb258, 3, none⟩ = some (.int .i64 a0_3) := (blk_cell BK258.out 3).trans rfl; have hfz13_0 := blk_frozen BK258.out 0; have hfz13_1 := blk_frozen BK258.out 1; have hfz13_2 := blk_frozen BK258.out 2; have hfz13_3 := blk_frozen BK258.out 3; have hcz14_0 : w5.cell? ⟨gb259, 0, none⟩ = some (.int .i64 a1_0) := (blk_cell BK259.out 0).trans rfl; have hcz14_1 : w5.cell? ⟨gb259, 1, none⟩ = some (.int .u64 a1_1) := (blk_cell BK259.out 1).trans rfl; have hcz14_2 : w5.cell? ⟨gb259, 2, none⟩ = some (.slice A1_2 l1_2.length c1_2) := (blk_cell BK259.out 2).trans rfl; have hcz14_3 : w5.cell? ⟨gb259, 3, none⟩ = some (.int .i64 a1_3) := (blk_cell BK259.out 3).trans rfl; have hfz14_0 := blk_frozen BK259.out 0; have hfz14_1 := blk_frozen BK259.out 1; have hfz14_2 := blk_frozen BK259.out 2; have hfz14_3 := blk_frozen BK259.out 3
  go_wp2
  go_meet
  case rel => exact ⟨_, (true), (by first | rfl | (simp; done) | (simp [*]; done)), H', ⟨by first | omega | exact Nat.le_refl _⟩, ⟨by (with_reducible repeat first | apply zN | apply zD | apply zA); exact BK258.out⟩, ⟨by (with_reducible repeat first | apply zN | apply zD | apply zA); exact BK259.out⟩, ⟨by repeat (first | (with_reducible first | exact HB.out | apply yA | apply yN | apply yD | refine yS ?_ GE258.out | refine yS ?_ GE259.out) | exact HB.out)⟩⟩
 case rest =>
  as_aux_lemma =>
   clear HC3; (try clear c1); (try clear p2); (try clear c3); (try clear c6); (try clear c6b0); (try clear c6b1); (try clear c7); (try clear c7b0); (try clear c7b1); (try clear c8); (try clear c8b0); (try clear c8b1); (try clear c9); (try clear c12); (try clear c15); (try clear c18); (try clear hcz10_0); (try clear hcz10_1); (try clear hcz10_2); (try clear hcz10_3); (try clear hcz11_0); (try clear hcz11_1); (try clear hcz11_2); (try clear hcz11_3); (try clear hcz13_0); (try clear hcz13_1); (try clear hcz13_2); (try clear hcz13_3); (try clear hcz14_0); (try clear hcz14_1); (try clear hcz14_2); (try clear hcz14_3); (try clear hcz16_0); (try clear hcz16_1); (try clear hcz16_2); (try clear hcz16_3); (try clear hcz17_0); (try clear hcz17_1); (try clear hcz17_2); (try clear hcz17_3); (try clear hcz19_0); (try clear hcz19_1); (try clear hcz19_2); (try clear hcz19_3); (try clear hcz20_0); (try clear hcz20_1); (try clear hcz20_2); (try clear hcz20_3); (try clear hfz10_0); (try clear hfz10_1); (try clear hfz10_2); (try clear hfz10_3); (try clear hfz11_0); (try clear hfz11_1); (try clear hfz11_2); (try clear hfz11_3); (try clear hfz13_0); (try clear hfz13_1); (try clear hfz13_2); (try clear hfz13_3); (try clear hfz14_0); (try clear hfz14_1); (try clear hfz14_2); (try clear hfz14_3); (try clear hfz16_0); (try clear hfz16_1); (try clear hfz16_2); (try clear hfz16_3); (try clear hfz17_0); (try clear hfz17_1); (try clear hfz17_2); (try clear hfz17_3); (try clear hfz19_0); (try clear hfz19_1); (try clear hfz19_2); (try clear hfz19_3); (try clear hfz20_0); (try clear hfz20_1); (try clear hfz20_2); (try clear hfz20_3); obtain ⟨kq, x33_2, rfl, HA, HJ2, BK258, BK259, HB⟩ := hcut
   cases kq with
   | zero => exact absurd HA.out (by simp [tikref13_SameScan.j0])
   | succ kj2 =>
    have H := HA.out; clear HA; (simp only [tikref13_SameScan.j0] at H)
    by_cases c21 : x33_2 = true
    ·subst c21
     (have H1 : (some false) = some r := by rw [if_pos rfl] at H; exact H); clear H; have H := H1; clear H1; exact absurd ((Option.some.inj H).trans hr_.out) (by simp)
    replace c21 := Bool.eq_false_iff.mpr c21; subst c21; (have H1 : (tikref13_SameScan.l0 kj2 0 a0_0 a0_1 l0_2 a0_3 a1_0 a1_1 l1_2 a1_3) = some r := by rw [if_neg (show ¬ (false = true) by decide)] at H; exact H); clear H; have H := H1; clear H1; have H' := Aside0.mk H; clear H
    go_wp2
    go_loopg [5] kj2 (fun kq v5 w' => ∃ (x5_2 : Int), v5 = .int .i64 x5_2 ∧ Aside0 (tikref13_SameScan.l0 kq x5_2 a0_0 a0_1 l0_2 a0_3 a1_0 a1_1 l1_2 a1_3 = some r) ∧ Aside0 (kq ≤ kj2) ∧ Aside0 (w'.heap[gb258]? = some (.cells #[.int .i64 a0_0, .int .u64 a0_1, (.slice A0_2 l0_2.length c0_2), .int .i64 a0_3] 77 (0, 0))) ∧ Aside0 (w'.heap[gb259]? = some (.cells #[.int .i64 a1_0, .int .u64 a1_1, (.slice A1_2 l1_2.length c1_2), .int .i64 a1_3] 77 (0, 0))) ∧ Aside0 (Below w.heap.size w w'))
    case atStart => exact ⟨(0), (by first | rfl | (simp; done) | (simp [*]; done)), H', ⟨Nat.le_refl _⟩, ⟨by (with_reducible repeat first | apply zN | apply zD | apply zA); exact BK258.out⟩, ⟨by (with_reducible repeat first | apply zN | apply zD | apply zA); exact BK259.out⟩, ⟨by repeat (first | (with_reducible first | exact HB.out | apply yA | apply yN | apply yD | refine yS ?_ GE258.out | refine yS ?_ GE259.out) | exact HB.out)⟩⟩
    case round =>
     as_aux_lemma =>
      clear H'; (try clear c1); (try clear c2); (try clear p2); (try clear c3); (try clear c6); (try clear c6b0); (try clear c6b1); (try clear c7); (try clear c7b0); (try clear c7b1); (try clear c8); (try clear c8b0); (try clear c8b1); (try clear c9); (try clear c12); (try clear c15); (try clear c18); (try clear c21); (try clear hcz10_0); (try clear hcz10_1); (try clear hcz10_2); (try clear hcz10_3); (try clear hcz11_0); (try clear hcz11_1); (try clear hcz11_2); (try clear hcz11_3); (try clear hcz13_0); (try clear hcz13_1); (try clear hcz13_2); (try clear hcz13_3); (try clear hcz14_0); (try clear hcz14_1); (try clear hcz14_2); (try clear hcz14_3); (try clear hcz16_0); (try clear hcz16_1); (try clear hcz16_2); (try clear hcz16_3); (try clear hcz17_0); (try clear hcz17_1); (try clear hcz17_2); (try clear hcz17_3); (try clear hcz19_0); (try clear hcz19_1); (try clear hcz19_2); (try clear hcz19_3); (try clear hcz20_0); (try clear hcz20_1); (try clear hcz20_2); (try clear hcz20_3); (try clear hfz10_0); (try clear hfz10_1); (try clear hfz10_2); (try clear hfz10_3); (try clear hfz11_0); (try clear hfz11_1); (try clear hfz11_2); (try clear hfz11_3); (try clear hfz13_0); (try clear hfz13_1); (try clear hfz13_2); (try clear hfz13_3); (try clear hfz14_0); (try clear hfz14_1); (try clear hfz14_2); (try clear hfz14_3); (try clear hfz16_0); (try clear hfz16_1); (try clear hfz16_2); (try clear hfz16_3); (try clear hfz17_0); (try clear hfz17_1); (try clear hfz17_2); (try clear hfz17_3); (try clear hfz19_0); (try clear hfz19_1); (try clear hfz19_2); (try clear hfz19_3); (try clear hfz20_0); (try clear hfz20_1); (try clear hfz20_2); (try clear hfz20_3); (try clear p2); obtain ⟨x5_2, rfl, HA, HK2, BK258, BK259, HB⟩ := hrel
      cases gk with
      | zero => exact absurd HA.out (by simp [tikref13_SameScan.l0])
      | succ k2 =>
       have H := HA.out; clear HA; (simp only [tikref13_SameScan.l0] at H)
       by_cases c22 : x5_2 < (l0_2.length : Int)
       rotate_left
       ·rw [if_neg c22] at H
        have c22b0 : decide (x5_2 < (l0_2.length : Int)) = false := decide_eq_false c22; clear c22; obtain rfl := Option.some.inj H; have hnb33 := NB258_259.out; have hnc33 := NB259_258.out; have hcz34_0 : wr.cell? ⟨gb258, 0, none⟩ = some (.int .i64 a0_0) := (blk_cell BK258.out 0).trans rfl; have hcz34_1 : wr.cell? ⟨gb258, 1, none⟩ = some (.int .u64 a0_1) := (blk_cell BK258.out 1).trans rfl; have hcz34_2 : wr.cell? ⟨gb258, 2, none⟩ = some (.slice A0_2 l0_2.length c0_2) := (blk_cell BK258.out 2).trans rfl; have hcz34_3 : wr.cell? ⟨gb258, 3, none⟩ = some (.int .i64 a0_3) := (blk_cell BK258.out 3).trans rfl; have hfz34_0 := blk_frozen BK258.out 0; have hfz34_1 := blk_frozen BK258.out 1; have hfz34_2 := blk_frozen BK258.out 2; have hfz34_3 := blk_frozen BK258.out 3
        go_wp2
        go_ret
        exact ⟨by first | rfl | (simp [errW_none, errW_some] <;> rfl) | (simp [*, errW_none, errW_some] <;> rfl), by repeat (first | (with_reducible first | exact HB.out | apply yA | apply yN | apply yD | refine yS ?_ GE258.out | refine yS ?_ GE259.out) | exact HB.out)⟩
       (rw [if_pos c22] at H); have c22b0 : decide (x5_2 < (l0_2.length : Int)) = true := decide_eq_true c22; clear c22
       by_cases c23 : 0 ≤ x5_2
       rotate_left
       ·rw [if_neg c23] at H
        exact absurd H (by simp)
       (rw [if_pos c23] at H); have c23b0 : decide (0 ≤ x5_2) = true := decide_eq_true c23; clear c23
       by_cases c24 : x5_2 < (l1_2.length : Int)
       rotate_left
       ·rw [if_neg c24] at H
        exact absurd H (by simp)
       (rw [if_pos c24] at H); have c24b0 : decide (x5_2 < (l1_2.length : Int)) = true := decide_eq_true c24; clear c24
       by_cases c25 : ((rd_T127 l0_2 x5_2).f1) = ((rd_T127 l1_2 x5_2).f1)
       rotate_left
       ·rw [if_neg c25] at H
        have c25b0 : (((rd_T127 l0_2 x5_2).f1) == ((rd_T127 l1_2 x5_2).f1)) = false := beq_eq_false_iff_ne.mpr c25; have c25b1 : (((rd_T127 l0_2 x5_2).f1) != ((rd_T127 l1_2 x5_2).f1)) = true := bne_iff_ne.mpr c25; exact absurd ((Option.some.inj H).trans hr_.out) (by simp)
       (rw [if_pos c25] at H); have c25b0 : (((rd_T127 l0_2 x5_2).f1) == ((rd_T127 l1_2 x5_2).f1)) = true := beq_iff_eq.mpr c25; have c25b1 : (((rd_T127 l0_2 x5_2).f1) != ((rd_T127 l1_2 x5_2).f1)) = false := bne_eq_false_iff_eq.mpr c25; clear c25
       by_cases c26 : ((rd_T127 l0_2 x5_2).f2) = ((rd_T127 l1_2 x5_2).f2)
       rotate_left
       ·rw [if_neg c26] at H
        have c26b0 : (((rd_T127 l0_2 x5_2).f2) == ((rd_T127 l1_2 x5_2).f2)) = false := beq_eq_false_iff_ne.mpr c26; have c26b1 : (((rd_T127 l0_2 x5_2).f2) != ((rd_T127 l1_2 x5_2).f2)) = true := bne_iff_ne.mpr c26; exact absurd ((Option.some.inj H).trans hr_.out) (by simp)
       (rw [if_pos c26] at H); have c26b0 : (((rd_T127 l0_2 x5_2).f2) == ((rd_T127 l1_2 x5_2).f2)) = true := beq_iff_eq.mpr c26; have c26b1 : (((rd_T127 l0_2 x5_2).f2) != ((rd_T127 l1_2 x5_2).f2)) = false := bne_eq_false_iff_eq.mpr c26; clear c26; replace H := Option.bind_eq_some_iff.mp H; obtain ⟨t266, A270, H⟩ := H; replace H : (if t266 = true then (tikref13_SameScan.l0 k2 (wrap64 (x5_2 + 1)) a0_0 a0_1 l0_2 a0_3 a1_0 a1_1 l1_2 a1_3) else (some false)) = some r := H; have A27 := Aside0.mk A270; clear A270
       by_cases c28 : t266 = true
       rotate_left
       ·replace c28 := Bool.eq_false_iff.mpr c28
        subst c28; (have H1 : (some false) = some r := by rw [if_neg (show ¬ (false = true) by decide)] at H; exact H); clear H; have H := H1; clear H1; exact absurd ((Option.some.inj H).trans hr_.out) (by simp)
       subst c28; (have H1 : (tikref13_SameScan.l0 k2 (wrap64 (x5_2 + 1)) a0_0 a0_1 l0_2 a0_3 a1_0 a1_1 l1_2 a1_3) = some r := by rw [if_pos rfl] at H; exact H); clear H; have H := H1; clear H1; have H' := Aside0.mk H; clear H; have hnb29 := NB258_259.out; have hnc29 := NB259_258.out; have hcz30_0 : wr.cell? ⟨gb258, 0, none⟩ = some (.int .i64 a0_0) := (blk_cell BK258.out 0).trans rfl; have hcz30_1 : wr.cell? ⟨gb258, 1, none⟩ = some (.int .u64 a0_1) := (blk_cell BK258.out 1).trans rfl; have hcz30_2 : wr.cell? ⟨gb258, 2, none⟩ = some (.slice A0_2 l0_2.length c0_2) := (blk_cell BK258.out 2).trans rfl; have hcz30_3 : wr.cell? ⟨gb258, 3, none⟩ = some (.int .i64 a0_3) := (blk_cell BK258.out 3).trans rfl; have hfz30_0 := blk_frozen BK258.out 0; have hfz30_1 := blk_frozen BK258.out 1; have hfz30_2 := blk_frozen BK258.out 2; have hfz30_3 := blk_frozen BK258.out 3
       try go_wp2
       have n0_ := Aside0.mk (blk_drew BK258.out); have n1_ := Aside0.mk (blk_drew BK259.out); have n2_ := Aside0.mk (below_drew1 HB.out); clear BK258; clear BK259; clear HB; have BK258 := n0_; have BK259 := n1_; have HB := n2_; clear n0_ n1_ n2_; have p260 : 0 ≤ (x5_2 : Int) := of_decide_eq_true (by first | (with_reducible assumption) | assumption); have q260 : x5_2 < (l0_2.length : Int) := of_decide_eq_true (by first | (with_reducible assumption) | assumption); obtain ⟨ad260, A260_3, c260_3, e260, hx260_0, hx260_1, hx260_2, hx260_3, hx260_4, hx260_5, hl260_3, hi260_3⟩ := at_T127 HR0_2.out x5_2 p260 q260; have hw260_5 := hx260_5; have hw260_4 := hx260_4; have hw260_3 := hx260_3; have hw260_2 := hx260_2; have hw260_1 := hx260_1; have hw260_0 := hx260_0
       cases e260
       replace hx260_0 := (HB.out.cell (World.block_lt_of_cell? w _ hx260_0)).trans hx260_0; replace hx260_1 := (HB.out.cell (World.block_lt_of_cell? w _ hx260_1)).trans hx260_1; replace hx260_2 := (HB.out.cell (World.block_lt_of_cell? w _ hx260_2)).trans hx260_2; replace hx260_3 := (HB.out.cell (World.block_lt_of_cell? w _ hx260_3)).trans hx260_3; replace hx260_4 := (HB.out.cell (World.block_lt_of_cell? w _ hx260_4)).trans hx260_4; replace hx260_5 := (HB.out.cell (World.block_lt_of_cell? w _ hx260_5)).trans hx260_5; have HR260_3 := Aside0.mk hi260_3; have HC260_3 := Aside0.mk hl260_3; clear hi260_3 hl260_3; replace p260 := eq_true p260; replace q260 := eq_true q260; have p261 : 0 ≤ (x5_2 : Int) := of_decide_eq_true (by first | (with_reducible assumption) | assumption); have q261 : x5_2 < (l1_2.length : Int) := of_decide_eq_true (by first | (with_reducible assumption) | assumption); obtain ⟨ad261, A261_3, c261_3, e261, hx261_0, hx261_1, hx261_2, hx261_3, hx261_4, hx261_5, hl261_3, hi261_3⟩ := at_T127 HR1_2.out x5_2 p261 q261; have hw261_5 := hx261_5; have hw261_4 := hx261_4; have hw261_3 := hx261_3; have hw261_2 := hx261_2; have hw261_1 := hx261_1; have hw261_0 := hx261_0
       cases e261
       replace hx261_0 := (HB.out.cell (World.block_lt_of_cell? w _ hx261_0)).trans hx261_0; replace hx261_1 := (HB.out.cell (World.block_lt_of_cell? w _ hx261_1)).trans hx261_1; replace hx261_2 := (HB.out.cell (World.block_lt_of_cell? w _ hx261_2)).trans hx261_2; replace hx261_3 := (HB.out.cell (World.block_lt_of_cell? w _ hx261_3)).trans hx261_3; replace hx261_4 := (HB.out.cell (World.block_lt_of_cell? w _ hx261_4)).trans hx261_4; replace hx261_5 := (HB.out.cell (World.block_lt_of_cell? w _ hx261_5)).trans hx261_5; have HR261_3 := Aside0.mk hi261_3; have HC261_3 := Aside0.mk hl261_3; clear hi261_3 hl261_3; replace p261 := eq_true p261; replace q261 := eq_true q261; have p262 : 0 ≤ (x5_2 : Int) := of_decide_eq_true (by first | (with_reducible assumption) | assumption); have q262 : x5_2 < (l0_2.length : Int) := of_decide_eq_true (by first | (with_reducible assumption) | assumption); obtain ⟨ad262, A262_3, c262_3, e262, hx262_0, hx262_1, hx262_2, hx262_3, hx262_4, hx262_5, hl262_3, hi262_3⟩ := at_T127 HR0_2.out x5_2 p262 q262; have hw262_5 := hx262_5; have hw262_4 := hx262_4; have hw262_3 := hx262_3; have hw262_2 := hx262_2; have hw262_1 := hx262_1; have hw262_0 := hx262_0; obtain rfl : ad260 = ad262 := (by injection e262); replace hx262_0 := (HB.out.cell (World.block_lt_of_cell? w _ hx262_0)).trans hx262_0; replace hx262_1 := (HB.out.cell (World.block_lt_of_cell? w _ hx262_1)).trans hx262_1; replace hx262_2 := (HB.out.cell (World.block_lt_of_cell? w _ hx262_2)).trans hx262_2; replace hx262_3 := (HB.out.cell (World.block_lt_of_cell? w _ hx262_3)).trans hx262_3; replace hx262_4 := (HB.out.cell (World.block_lt_of_cell? w _ hx262_4)).trans hx262_4; replace hx262_5 := (HB.out.cell (World.block_lt_of_cell? w _ hx262_5)).trans hx262_5; have HR262_3 := Aside0.mk hi262_3; have HC262_3 := Aside0.mk hl262_3; clear hi262_3 hl262_3; replace p262 := eq_true p262; replace q262 := eq_true q262; have ea_ := Option.some.inj (hx260_3.symm.trans hx262_3)
       injection ea_ with ea_ en_ ec_
       subst ea_; subst ec_; clear en_; have p263 : 0 ≤ (x5_2 : Int) := of_decide_eq_true (by first | (with_reducible assumption) | assumption); have q263 : x5_2 < (l1_2.length : Int) := of_decide_eq_true (by first | (with_reducible assumption) | assumption); obtain ⟨ad263, A263_3, c263_3, e263, hx263_0, hx263_1, hx263_2, hx263_3, hx263_4, hx263_5, hl263_3, hi263_3⟩ := at_T127 HR1_2.out x5_2 p263 q263; have hw263_5 := hx263_5; have hw263_4 := hx263_4; have hw263_3 := hx263_3; have hw263_2 := hx263_2; have hw263_1 := hx263_1; have hw263_0 := hx263_0; obtain rfl : ad261 = ad263 := (by injection e263); replace hx263_0 := (HB.out.cell (World.block_lt_of_cell? w _ hx263_0)).trans hx263_0; replace hx263_1 := (HB.out.cell (World.block_lt_of_cell? w _ hx263_1)).trans hx263_1; replace hx263_2 := (HB.out.cell (World.block_lt_of_cell? w _ hx263_2)).trans hx263_2; replace hx263_3 := (HB.out.cell (World.block_lt_of_cell? w _ hx263_3)).trans hx263_3; replace hx263_4 := (HB.out.cell (World.block_lt_of_cell? w _ hx263_4)).trans hx263_4; replace hx263_5 := (HB.out.cell (World.block_lt_of_cell? w _ hx263_5)).trans hx263_5; have HR263_3 := Aside0.mk hi263_3; have HC263_3 := Aside0.mk hl263_3; clear hi263_3 hl263_3; replace p263 := eq_true p263; replace q263 := eq_true q263; have ea_ := Option.some.inj (hx261_3.symm.trans hx263_3)
       injection ea_ with ea_ en_ ec_
       subst ea_; subst ec_; clear en_; have p264 : 0 ≤ (x5_2 : Int) := of_decide_eq_true (by first | (with_reducible assumption) | assumption); have q264 : x5_2 < (l0_2.length : Int) := of_decide_eq_true (by first | (with_reducible assumption) | assumption); obtain ⟨ad264, A264_3, c264_3, e264, hx264_0, hx264_1, hx264_2, hx264_3, hx264_4, hx264_5, hl264_3, hi264_3⟩ := at_T127 HR0_2.out x5_2 p264 q264; have hw264_5 := hx264_5; have hw264_4 := hx264_4; have hw264_3 := hx264_3; have hw264_2 := hx264_2; have hw264_1 := hx264_1; have hw264_0 := hx264_0; obtain rfl : ad260 = ad264 := (by injection e264); replace hx264_0 := (HB.out.cell (World.block_lt_of_cell? w _ hx264_0)).trans hx264_0; replace hx264_1 := (HB.out.cell (World.block_lt_of_cell? w _ hx264_1)).trans hx264_1; replace hx264_2 := (HB.out.cell (World.block_lt_of_cell? w _ hx264_2)).trans hx264_2; replace hx264_3 := (HB.out.cell (World.block_lt_of_cell? w _ hx264_3)).trans hx264_3; replace hx264_4 := (HB.out.cell (World.block_lt_of_cell? w _ hx264_4)).trans hx264_4; replace hx264_5 := (HB.out.cell (World.block_lt_of_cell? w _ hx264_5)).trans hx264_5; have HR264_3 := Aside0.mk hi264_3; have HC264_3 := Aside0.mk hl264_3; clear hi264_3 hl264_3; replace p264 := eq_true p264; replace q264 := eq_true q264; have ea_ := Option.some.inj (hx260_3.symm.trans hx264_3)
       injection ea_ with ea_ en_ ec_
       subst ea_; subst ec_; clear en_; have p265 : 0 ≤ (x5_2 : Int) := of_decide_eq_true (by first | (with_reducible assumption) | assumption); have q265 : x5_2 < (l1_2.length : Int) := of_decide_eq_true (by first | (with_reducible assumption) | assumption); obtain ⟨ad265, A265_3, c265_3, e265, hx265_0, hx265_1, hx265_2, hx265_3, hx265_4, hx265_5, hl265_3, hi265_3⟩ := at_T127 HR1_2.out x5_2 p265 q265; have hw265_5 := hx265_5; have hw265_4 := hx265_4; have hw265_3 := hx265_3; have hw265_2 := hx265_2; have hw265_1 := hx265_1; have hw265_0 := hx265_0; obtain rfl : ad261 = ad265 := (by injection e265); replace hx265_0 := (HB.out.cell (World.block_lt_of_cell? w _ hx265_0)).trans hx265_0; replace hx265_1 := (HB.out.cell (World.block_lt_of_cell? w _ hx265_1)).trans hx265_1; replace hx265_2 := (HB.out.cell (World.block_lt_of_cell? w _ hx265_2)).trans hx265_2; replace hx265_3 := (HB.out.cell (World.block_lt_of_cell? w _ hx265_3)).trans hx265_3; replace hx265_4 := (HB.out.cell (World.block_lt_of_cell? w _ hx265_4)).trans hx265_4; replace hx265_5 := (HB.out.cell (World.block_lt_of_cell? w _ hx265_5)).trans hx265_5; have HR265_3 := Aside0.mk hi265_3; have HC265_3 := Aside0.mk hl265_3; clear hi265_3 hl265_3; replace p265 := eq_true p265; replace q265 := eq_true q265; have ea_ := Option.some.inj (hx261_3.symm.trans hx265_3)
       injection ea_ with ea_ en_ ec_
       subst ea_; subst ec_; clear en_; refine start_ (n := 44) (S := fun w' => w'.cell? ⟨gb258, 0, none⟩ = some (.int .i64 a0_0) ∧ w'.cell? ⟨gb258, 1, none⟩ = some (.int .u64 a0_1) ∧ w'.cell? ⟨gb258, 2, none⟩ = some (.slice (some ad260) l0_2.length c0_2) ∧ w'.cell? ⟨gb258, 3, none⟩ = some (.int .i64 a0_3) ∧ w'.cell? ⟨gb259, 0, none⟩ = some (.int .i64 a1_0) ∧ w'.cell? ⟨gb259, 1, none⟩ = some (.int .u64 a1_1) ∧ w'.cell? ⟨gb259, 2, none⟩ = some (.slice (some ad261) l1_2.length c1_2) ∧ w'.cell? ⟨gb259, 3, none⟩ = some (.int .i64 a1_3) ∧ w'.cell? (ad260.add ((x5_2).toNat * 6)) = some (.int .i64 ((rd_T127 l0_2 x5_2).f0.f0)) ∧ w'.cell? ⟨(ad260.add ((x5_2).toNat * 6)).block, (ad260.add ((x5_2).toNat * 6)).off + 1, none⟩ = some (.int .u64 ((rd_T127 l0_2 x5_2).f0.f1)) ∧ w'.cell? ⟨(ad260.add ((x5_2).toNat * 6)).block, (ad260.add ((x5_2).toNat * 6)).off + 2, none⟩ = some (.int .u64 ((rd_T127 l0_2 x5_2).f0.f2)) ∧ w'.cell? ⟨(ad260.add ((x5_2).toNat * 6)).block, (ad260.add ((x5_2).toNat * 6)).off + 3, none⟩ = some (.slice A260_3 ((rd_T127 l0_2 x5_2).f0.f3).length c260_3) ∧ w'.cell? ⟨(ad260.add ((x5_2).toNat * 6)).block, (ad260.add ((x5_2).toNat * 6)).off + 4, none⟩ = some (.int .i64 ((rd_T127 l0_2 x5_2).f1)) ∧ w'.cell? ⟨(ad260.add ((x5_2).toNat * 6)).block, (ad260.add ((x5_2).toNat * 6)).off + 5, none⟩ = some (.int .i64 ((rd_T127 l0_2 x5_2).f2)) ∧ w'.cell? (ad261.add ((x5_2).toNat * 6)) = some (.int .i64 ((rd_T127 l1_2 x5_2).f0.f0)) ∧ w'.cell? ⟨(ad261.add ((x5_2).toNat * 6)).block, (ad261.add ((x5_2).toNat * 6)).off + 1, none⟩ = some (.int .u64 ((rd_T127 l1_2 x5_2).f0.f1)) ∧ w'.cell? ⟨(ad261.add ((x5_2).toNat * 6)).block, (ad261.add ((x5_2).toNat * 6)).off + 2, none⟩ = some (.int .u64 ((rd_T127 l1_2 x5_2).f0.f2)) ∧ w'.cell? ⟨(ad261.add ((x5_2).toNat * 6)).block, (ad261.add ((x5_2).toNat * 6)).off + 3, none⟩ = some (.slice A261_3 ((rd_T127 l1_2 x5_2).f0.f3).length c261_3) ∧ w'.cell? ⟨(ad261.add ((x5_2).toNat * 6)).block, (ad261.add ((x5_2).toNat * 6)).off + 4, none⟩ = some (.int .i64 ((rd_T127 l1_2 x5_2).f1)) ∧ w'.cell? ⟨(ad261.add ((x5_2).toNat * 6)).block, (ad261.add ((x5_2).toNat * 6)).off + 5, none⟩ = some (.int .i64 ((rd_T127 l1_2 x5_2).f2)) ∧ w'.cell? (ad260.add ((x5_2).toNat * 6)) = some (.int .i64 ((rd_T127 l0_2 x5_2).f0.f0)) ∧ w'.cell? ⟨(ad260.add ((x5_2).toNat * 6)).block, (ad260.add ((x5_2).toNat * 6)).off + 1, none⟩ = some (.int .u64 ((rd_T127 l0_2 x5_2).f0.f1)) ∧ w'.cell? ⟨(ad260.add ((x5_2).toNat * 6)).block, (ad260.add ((x5_2).toNat * 6)).off + 2, none⟩ = some (.int .u64 ((rd_T127 l0_2 x5_2).f0.f2)) ∧ w'.cell? ⟨(ad260.add ((x5_2).toNat * 6)).block, (ad260.add ((x5_2).toNat * 6)).off + 3, none⟩ = some (.slice A260_3 ((rd_T127 l0_2 x5_2).f0.f3).length c260_3) ∧ w'.cell? ⟨(ad260.add ((x5_2).toNat * 6)).block, (ad260.add ((x5_2).toNat * 6)).off + 4, none⟩ = some (.int .i64 ((rd_T127 l0_2 x5_2).f1)) ∧ w'.cell? ⟨(ad260.add ((x5_2).toNat * 6)).block, (ad260.add ((x5_2).toNat * 6)).off + 5, none⟩ = some (.int .i64 ((rd_T127 l0_2 x5_2).f2)) ∧ w'.cell? (ad261.add ((x5_2).toNat * 6)) = some (.int .i64 ((rd_T127 l1_2 x5_2).f0.f0)) ∧ w'.cell? ⟨(ad261.add ((x5_2).toNat * 6)).block, (ad261.add ((x5_2).toNat * 6)).off + 1, none⟩ = some (.int .u64 ((rd_T127 l1_2 x5_2).f0.f1)) ∧ w'.cell? ⟨(ad261.add ((x5_2).toNat * 6)).block, (ad261.add ((x5_2).toNat * 6)).off + 2, none⟩ = some (.int .u64 ((rd_T127 l1_2 x5_2).f0.f2)) ∧ w'.cell? ⟨(ad261.add ((x5_2).toNat * 6)).block, (ad261.add ((x5_2).toNat * 6)).off + 3, none⟩ = some (.slice A261_3 ((rd_T127 l1_2 x5_2).f0.f3).length c261_3) ∧ w'.cell? ⟨(ad261.add ((x5_2).toNat * 6)).block, (ad261.add ((x5_2).toNat * 6)).off + 4, none⟩ = some (.int .i64 ((rd_T127 l1_2 x5_2).f1)) ∧ w'.cell? ⟨(ad261.add ((x5_2).toNat * 6)).block, (ad261.add ((x5_2).toNat * 6)).off + 5, none⟩ = some (.int .i64 ((rd_T127 l1_2 x5_2).f2)) ∧ w'.cell? (ad260.add ((x5_2).toNat * 6)) = some (.int .i64 ((rd_T127 l0_2 x5_2).f0.f0)) ∧ w'.cell? ⟨(ad260.add ((x5_2).toNat * 6)).block, (ad260.add ((x5_2).toNat * 6)).off + 1, none⟩ = some (.int .u64 ((rd_T127 l0_2 x5_2).f0.f1)) ∧ w'.cell? ⟨(ad260.add ((x5_2).toNat * 6)).block, (ad260.add ((x5_2).toNat * 6)).off + 2, none⟩ = some (.int .u64 ((rd_T127 l0_2 x5_2).f0.f2)) ∧ w'.cell? ⟨(ad260.add ((x5_2).toNat * 6)).block, (ad260.add ((x5_2).toNat * 6)).off + 3, none⟩ = some (.slice A260_3 ((rd_T127 l0_2 x5_2).f0.f3).length c260_3) ∧ w'.cell? ⟨(ad260.add ((x5_2).toNat * 6)).block, (ad260.add ((x5_2).toNat * 6)).off + 4, none⟩ = some (.int .i64 ((rd_T127 l0_2 x5_2).f1)) ∧ w'.cell? ⟨(ad260.add ((x5_2).toNat * 6)).block, (ad260.add ((x5_2).toNat * 6)).off + 5, none⟩ = some (.int .i64 ((rd_T127 l0_2 x5_2).f2)) ∧ w'.cell? (ad261.add ((x5_2).toNat * 6)) = some (.int .i64 ((rd_T127 l1_2 x5_2).f0.f0)) ∧ w'.cell? ⟨(ad261.add ((x5_2).toNat * 6)).block, (ad261.add ((x5_2).toNat * 6)).off + 1, none⟩ = some (.int .u64 ((rd_T127 l1_2 x5_2).f0.f1)) ∧ w'.cell? ⟨(ad261.add ((x5_2).toNat * 6)).block, (ad261.add ((x5_2).toNat * 6)).off + 2, none⟩ = some (.int .u64 ((rd_T127 l1_2 x5_2).f0.f2)) ∧ w'.cell? ⟨(ad261.add ((x5_2).toNat * 6)).block, (ad261.add ((x5_2).toNat * 6)).off + 3, none⟩ = some (.slice A261_3 ((rd_T127 l1_2 x5_2).f0.f3).length c261_3) ∧ w'.cell? ⟨(ad261.add ((x5_2).toNat * 6)).block, (ad261.add ((x5_2).toNat * 6)).off + 4, none⟩ = some (.int .i64 ((rd_T127 l1_2 x5_2).f1)) ∧ w'.cell? ⟨(ad261.add ((x5_2).toNat * 6)).block, (ad261.add ((x5_2).toNat * 6)).off + 5, none⟩ = some (.int .i64 ((rd_T127 l1_2 x5_2).f2))) (ds := []) #[false, false, false, false, false, false, false, false, false, false, false, false, false, false, false, false, false, false, false, false, false, false, false, false, false, false, false, false, false, false, false, false, false, false, false, false, false, false, false, false, false, false, false, false] (by kernel_rfl) rfl rfl ⟨(blk_cell BK258.out 0).trans rfl, (blk_cell BK258.out 1).trans rfl, (blk_cell BK258.out 2).trans rfl, (blk_cell BK258.out 3).trans rfl, (blk_cell BK259.out 0).trans rfl, (blk_cell BK259.out 1).trans rfl, (blk_cell BK259.out 2).trans rfl, (blk_cell BK259.out 3).trans rfl, ((HB.out.cell (World.block_lt_of_cell? w _ hw260_0)).trans hw260_0), ((HB.out.cell (World.block_lt_of_cell? w _ hw260_1)).trans hw260_1), ((HB.out.cell (World.block_lt_of_cell? w _ hw260_2)).trans hw260_2), ((HB.out.cell (World.block_lt_of_cell? w _ hw260_3)).trans hw260_3), ((HB.out.cell (World.block_lt_of_cell? w _ hw260_4)).trans hw260_4), ((HB.out.cell (World.block_lt_of_cell? w _ hw260_5)).trans hw260_5), ((HB.out.cell (World.block_lt_of_cell? w _ hw261_0)).trans hw261_0), ((HB.out.cell (World.block_lt_of_cell? w _ hw261_1)).trans hw261_1), ((HB.out.cell (World.block_lt_of_cell? w _ hw261_2)).trans hw261_2), ((HB.out.cell (World.block_lt_of_cell? w _ hw261_3)).trans hw261_3), ((HB.out.cell (World.block_lt_of_cell? w _ hw261_4)).trans hw261_4), ((HB.out.cell (World.block_lt_of_cell? w _ hw261_5)).trans hw261_5), ((HB.out.cell (World.block_lt_of_cell? w _ hw262_0)).trans hw262_0), ((HB.out.cell (World.block_lt_of_cell? w _ hw262_1)).trans hw262_1), ((HB.out.cell (World.block_lt_of_cell? w _ hw262_2)).trans hw262_2), ((HB.out.cell (World.block_lt_of_cell? w _ hw262_3)).trans hw262_3), ((HB.out.cell (World.block_lt_of_cell? w _ hw262_4)).trans hw262_4), ((HB.out.cell (World.block_lt_of_cell? w _ hw262_5)).trans hw262_5), ((HB.out.cell (World.block_lt_of_cell? w _ hw263_0)).trans hw263_0), ((HB.out.cell (World.block_lt_of_cell? w _ hw263_1)).trans hw263_1), ((HB.out.cell (World.block_lt_of_cell? w _ hw263_2)).trans hw263_2), ((HB.out.cell (World.block_lt_of_cell? w _ hw263_3)).trans hw263_3), ((HB.out.cell (World.block_lt_of_cell? w _ hw263_4)).trans hw263_4), ((HB.out.cell (World.block_lt_of_cell? w _ hw263_5)).trans hw263_5), ((HB.out.cell (World.block_lt_of_cell? w _ hw264_0)).trans hw264_0), ((HB.out.cell (World.block_lt_of_cell? w _ hw264_1)).trans hw264_1), ((HB.out.cell (World.block_lt_of_cell? w _ hw264_2)).trans hw264_2), ((HB.out.cell (World.block_lt_of_cell? w _ hw264_3)).trans hw264_3), ((HB.out.cell (World.block_lt_of_cell? w _ hw264_4)).trans hw264_4), ((HB.out.cell (World.block_lt_of_cell? w _ hw264_5)).trans hw264_5), ((HB.out.cell (World.block_lt_of_cell? w _ hw265_0)).trans hw265_0), ((HB.out.cell (World.block_lt_of_cell? w _ hw265_1)).trans hw265_1), ((HB.out.cell (World.block_lt_of_cell? w _ hw265_2)).trans hw265_2), ((HB.out.cell (World.block_lt_of_cell? w _ hw265_3)).trans hw265_3), ((HB.out.cell (World.block_lt_of_cell? w _ hw265_4)).trans hw265_4), ((HB.out.cell (World.block_lt_of_cell? w _ hw265_5)).trans hw265_5)⟩ (fun hHeld => ?_); refine with_tabW tikref13_SameScan.tab6 tikref13_SameScan.bits6 (fun HT_ HW_ => ?_); (generalize wr.drew = w31 at BK258 BK259 HB HR260_3 HR261_3 HR262_3 HR263_3 HR264_3 HR265_3 hx260_0 hx260_1 hx260_2 hx260_3 hx260_4 hx260_5 hx261_0 hx261_1 hx261_2 hx261_3 hx261_4 hx261_5 hx262_0 hx262_1 hx262_2 hx262_3 hx262_4 hx262_5 hx263_0 hx263_1 hx263_2 hx263_3 hx263_4 hx263_5 hx264_0 hx264_1 hx264_2 hx264_3 hx264_4 hx264_5 hx265_0 hx265_1 hx265_2 hx265_3 hx265_4 hx265_5 hHeld ⊢); refine pure_ (i := 0) (N := some 41) (v := ?_) (a' := ?_) #[true, false, false, false, false, false, false, false, false, false, false, false, false, false, false, false, false, false, false, false, false, false, false, false, false, false, false, false, false, false, false, false, false, false, false, false, false, false, false, false, false, false, false, false] rfl rfl (any_of HT_.out (by kernel_rfl)) (fun _ _ _ h => h) (Or.inl ⟨by rfl, ?_⟩) ?_ ?_
       rotate_left
       ·intro w'
        go_simp
        with_reducible rfl
       rotate_left
       ·simp only [Act.put, List.setIfInBounds_toArray, List.set_cons_zero, List.set_cons_succ, i64_w, i32_w]
        rfl
       refine pure_ (i := 2) (N := some 43) (v := ?_) (a' := ?_) #[true, false, true, false, false, false, false, false, false, false, false, false, false, false, false, false, false, false, false, false, false, false, false, false, false, false, false, false, false, false, false, false, false, false, false, false, false, false, false, false, false, false, false, false] rfl rfl (any_of HT_.out (by kernel_rfl)) (fun _ _ _ h => h) (Or.inl ⟨by rfl, ?_⟩) ?_ ?_
       rotate_left
       ·intro w'
        go_simp
        with_reducible rfl
       rotate_left
       ·simp only [Act.put, List.setIfInBounds_toArray, List.set_cons_zero, List.set_cons_succ, i64_w, i32_w]
        rfl
       refine pure_ (i := 6) (N := some 47) (v := ?_) (a' := ?_) #[true, false, true, false, false, false, true, false, false, false, false, false, false, false, false, false, false, false, false, false, false, false, false, false, false, false, false, false, false, false, false, false, false, false, false, false, false, false, false, false, false, false, false, false] rfl rfl (any_of HT_.out (by kernel_rfl)) (fun _ _ _ h => h) (Or.inl ⟨by rfl, ?_⟩) ?_ ?_
       rotate_left
       ·intro w'
        go_simp
        with_reducible rfl
       rotate_left
       ·simp only [Act.put, List.setIfInBounds_toArray, List.set_cons_zero, List.set_cons_succ, i64_w, i32_w]
        rfl
       refine pure_ (i := 8) (N := some 49) (v := ?_) (a' := ?_) #[true, false, true, false, false, false, true, false, true, false, false, false, false, false, false, false, false, false, false, false, false, false, false, false, false, false, false, false, false, false, false, false, false, false, false, false, false, false, false, false, false, false, false, false] rfl rfl (any_of HT_.out (by kernel_rfl)) (fun _ _ _ h => h) (Or.inl ⟨by rfl, ?_⟩) ?_ ?_
       rotate_left
       ·intro w'
        go_simp
        with_reducible rfl
       rotate_left
       ·simp only [Act.put, List.setIfInBounds_toArray, List.set_cons_zero, List.set_cons_succ, i64_w, i32_w]
        rfl
       refine take_ (i := 1) (N := some 42) (v := ?_) (a' := ?_) #[true, true, true, false, false, false, true, false, true, false, false, false, false, false, false, false, false, false, false, false, false, false, false, false, false, false, false, false, false, false, false, false, false, false, false, false, false, false, false, false, false, false, false, false] rfl rfl (take_ofW HT_.out HW_.out (by kernel_rfl)) (fun _ _ _ h => h) (Or.inl ⟨by rfl, ?_⟩) hHeld ?_ ?_
       rotate_left
       ·rintro w' ⟨s0, s1, s2, s3, s4, s5, s6, s7, s8, s9, s10, s11, s12, s13, s14, s15, s16, s17, s18, s19, s20, s21, s22, s23, s24, s25, s26, s27, s28, s29, s30, s31, s32, s33, s34, s35, s36, s37, s38, s39, s40, s41, s42, s43⟩
        go_simp
        with_reducible rfl
       rotate_left
       ·simp only [Act.put, List.setIfInBounds_toArray, List.set_cons_zero, List.set_cons_succ, i64_w, i32_w]
        rfl
       refine pure_ (i := 3) (N := some 44) (v := ?_) (a' := ?_) #[true, true, true, true, false, false, true, false, true, false, false, false, false, false, false, false, false, false, false, false, false, false, false, false, false, false, false, false, false, false, false, false, false, false, false, false, false, false, false, false, false, false, false, false] rfl rfl (any_of HT_.out (by kernel_rfl)) (fun _ _ _ h => h) (Or.inl ⟨by rfl, ?_⟩) ?_ ?_
       rotate_left
       ·intro w'
        go_simp
        with_reducible rfl
       rotate_left
       ·simp only [Act.put, List.setIfInBounds_toArray, List.set_cons_zero, List.set_cons_succ, i64_w, i32_w]
        rfl
       refine pure_ (i := 4) (N := some 45) (v := ?_) (a' := ?_) #[true, true, true, true, true, false, true, false, true, false, false, false, false, false, false, false, false, false, false, false, false, false, false, false, false, false, false, false, false, false, false, false, false, false, false, false, false, false, false, false, false, false, false, false] rfl rfl (any_of HT_.out (by kernel_rfl)) (fun _ _ _ h => h) (Or.inl ⟨by rfl, ?_⟩) ?_ ?_
       rotate_left
       ·intro w'
        go_simp
        with_reducible rfl
       rotate_left
       ·simp only [Act.put, List.setIfInBounds_toArray, List.set_cons_zero, List.set_cons_succ, i64_w, i32_w]
        rfl
       refine take_ (i := 5) (N := some 46) (v := ?_) (a' := ?_) #[true, true, true, true, true, true, true, false, true, false, false, false, false, false, false, false, false, false, false, false, false, false, false, false, false, false, false, false, false, false, false, false, false, false, false, false, false, false, false, false, false, false, false, false] rfl rfl (take_ofW HT_.out HW_.out (by kernel_rfl)) (fun _ _ _ h => h) (Or.inl ⟨by rfl, ?_⟩) hHeld ?_ ?_
       rotate_left
       ·rintro w' ⟨s0, s1, s2, s3, s4, s5, s6, s7, s8, s9, s10, s11, s12, s13, s14, s15, s16, s17, s18, s19, s20, s21, s22, s23, s24, s25, s26, s27, s28, s29, s30, s31, s32, s33, s34, s35, s36, s37, s38, s39, s40, s41, s42, s43⟩
        go_simp
        with_reducible rfl
       rotate_left
       ·simp only [Act.put, List.setIfInBounds_toArray, List.set_cons_zero, List.set_cons_succ, i64_w, i32_w]
        rfl
       refine take_ (i := 7) (N := some 48) (v := ?_) (a' := ?_) #[true, true, true, true, true, true, true, true, true, false, false, false, false, false, false, false, false, false, false, false, false, false, false, false, false, false, false, false, false, false, false, false, false, false, false, false, false, false, false, false, false, false, false, false] rfl rfl (take_ofW HT_.out HW_.out (by kernel_rfl)) (fun _ _ _ h => h) (Or.inl ⟨by rfl, ?_⟩) hHeld ?_ ?_
       rotate_left
       ·rintro w' ⟨s0, s1, s2, s3, s4, s5, s6, s7, s8, s9, s10, s11, s12, s13, s14, s15, s16, s17, s18, s19, s20, s21, s22, s23, s24, s25, s26, s27, s28, s29, s30, s31, s32, s33, s34, s35, s36, s37, s38, s39, s40, s41, s42, s43⟩
        go_simp
        with_reducible rfl
       rotate_left
       ·simp only [Act.put, List.setIfInBounds_toArray, List.set_cons_zero, List.set_cons_succ, i64_w, i32_w]
        rfl
       refine pure_ (i := 9) (N := some 50) (v := ?_) (a' := ?_) #[true, true, true, true, true, true, true, true, true, true, false, false, false, false, false, false, false, false, false, false, false, false, false, false, false, false, false, false, false, false, false, false, false, false, false, false, false, false, false, false, false, false, false, false] rfl rfl (any_of HT_.out (by kernel_rfl)) (fun _ _ _ h => h) (Or.inl ⟨by rfl, ?_⟩) ?_ ?_
       rotate_left
       ·intro w'
        go_simp
        with_reducible rfl
       rotate_left
       ·simp only [Act.put, List.setIfInBounds_toArray, List.set_cons_zero, List.set_cons_succ, i64_w, i32_w]
        rfl
       refine pure_ (i := 10) (N := some 51) (v := ?_) (a' := ?_) #[true, true, true, true, true, true, true, true, true, true, true, false, false, false, false, false, false, false, false, false, false, false, false, false, false, false, false, false, false, false, false, false, false, false, false, false, false, false, false, false, false, false, false, false] rfl rfl (any_of HT_.out (by kernel_rfl)) (fun _ _ _ h => h) (Or.inl ⟨by rfl, ?_⟩) ?_ ?_
       rotate_left
       ·intro w'
        go_simp
        with_reducible rfl
       rotate_left
       ·simp only [Act.put, List.setIfInBounds_toArray, List.set_cons_zero, List.set_cons_succ, i64_w, i32_w]
        rfl
       refine take_ (i := 11) (N := some 52) (v := ?_) (a' := ?_) #[true, true, true, true, true, true, true, true, true, true, true, true, false, false, false, false, false, false, false, false, false, false, false, false, false, false, false, false, false, false, false, false, false, false, false, false, false, false, false, false, false, false, false, false] rfl rfl (take_ofW HT_.out HW_.out (by kernel_rfl)) (fun _ _ _ h => h) (Or.inl ⟨by rfl, ?_⟩) hHeld ?_ ?_
       rotate_left
       ·rintro w' ⟨s0, s1, s2, s3, s4, s5, s6, s7, s8, s9, s10, s11, s12, s13, s14, s15, s16, s17, s18, s19, s20, s21, s22, s23, s24, s25, s26, s27, s28, s29, s30, s31, s32, s33, s34, s35, s36, s37, s38, s39, s40, s41, s42, s43⟩
        go_simp
        with_reducible rfl
       rotate_left
       ·simp only [Act.put, List.setIfInBounds_toArray, List.set_cons_zero, List.set_cons_succ, i64_w, i32_w]
        rfl
       refine pure_ (i := 12) (N := some 53) (v := ?_) (a' := ?_) #[true, true, true, true, true, true, true, true, true, true, true, true, true, false, false, false, false, false, false, false, false, false, false, false, false, false, false, false, false, false, false, false, false, false, false, false, false, false, false, false, false, false, false, false] rfl rfl (any_of HT_.out (by kernel_rfl)) (fun _ _ _ h => h) (Or.inl ⟨by rfl, ?_⟩) ?_ ?_
       rotate_left
       ·intro w'
        go_simp
        with_reducible rfl
       rotate_left
       ·simp only [Act.put, List.setIfInBounds_toArray, List.set_cons_zero, List.set_cons_succ, i64_w, i32_w]
        rfl
       refine pure_ (i := 13) (N := some 54) (v := ?_) (a' := ?_) #[true, true, true, true, true, true, true, true, true, true, true, true, true, true, false, false, false, false, false, false, false, false, false, false, false, false, false, false, false, false, false, false, false, false, false, false, false, false, false, false, false, false, false, false] rfl rfl (any_of HT_.out (by kernel_rfl)) (fun _ _ _ h => h) (Or.inl ⟨by rfl, ?_⟩) ?_ ?_
       rotate_left
       ·intro w'
        go_simp
        with_reducible rfl
       rotate_left
       ·simp only [Act.put, List.setIfInBounds_toArray, List.set_cons_zero, List.set_cons_succ, i64_w, i32_w]
        rfl
       refine pure_ (i := 14) (N := some 55) (v := ?_) (a' := ?_) #[true, true, true, true, true, true, true, true, true, true, true, true, true, true, true, false, false, false, false, false, false, false, false, false, false, false, false, false, false, false, false, false, false, false, false, false, false, false, false, false, false, false, false, false] rfl rfl (any_of HT_.out (by kernel_rfl)) (fun _ _ _ h => h) (Or.inl ⟨by rfl, ?_⟩) ?_ ?_
       rotate_left
       ·intro w'
        go_simp
        with_reducible rfl
       rotate_left
       ·simp only [Act.put, List.setIfInBounds_toArray, List.set_cons_zero, List.set_cons_succ, i64_w, i32_w]
        rfl
       refine pure_ (i := 16) (N := some 57) (v := ?_) (a' := ?_) #[true, true, true, true, true, true, true, true, true, true, true, true, true, true, true, false, true, false, false, false, false, false, false, false, false, false, false, false, false, false, false, false, false, false, false, false, false, false, false, false, false, false, false, false] rfl rfl (any_of HT_.out (by kernel_rfl)) (fun _ _ _ h => h) (Or.inl ⟨by rfl, ?_⟩) ?_ ?_
       rotate_left
       ·intro w'
        go_simp
        with_reducible rfl
       rotate_left
       ·simp only [Act.put, List.setIfInBounds_toArray, List.set_cons_zero, List.set_cons_succ, i64_w, i32_w]
        rfl
       refine pure_ (i := 20) (N := some 61) (v := ?_) (a' := ?_) #[true, true, true, true, true, true, true, true, true, true, true, true, true, true, true, false, true, false, false, false, true, false, false, false, false, false, false, false, false, false, false, false, false, false, false, false, false, false, false, false, false, false, false, false] rfl rfl (any_of HT_.out (by kernel_rfl)) (fun _ _ _ h => h) (Or.inl ⟨by rfl, ?_⟩) ?_ ?_
       rotate_left
       ·intro w'
        go_simp
        with_reducible rfl
       rotate_left
       ·simp only [Act.put, List.setIfInBounds_toArray, List.set_cons_zero, List.set_cons_succ, i64_w, i32_w]
        rfl
       refine pure_ (i := 22) (N := some 63) (v := ?_) (a' := ?_) #[true, true, true, true, true, true, true, true, true, true, true, true, true, true, true, false, true, false, false, false, true, false, true, false, false, false, false, false, false, false, false, false, false, false, false, false, false, false, false, false, false, false, false, false] rfl rfl (any_of HT_.out (by kernel_rfl)) (fun _ _ _ h => h) (Or.inl ⟨by rfl, ?_⟩) ?_ ?_
       rotate_left
       ·intro w'
        go_simp
        with_reducible rfl
       rotate_left
       ·simp only [Act.put, List.setIfInBounds_toArray, List.set_cons_zero, List.set_cons_succ, i64_w, i32_w]
        rfl
       refine take_ (i := 15) (N := some 56) (v := ?_) (a' := ?_) #[true, true, true, true, true, true, true, true, true, true, true, true, true, true, true, true, true, false, false, false, true, false, true, false, false, false, false, false, false, false, false, false, false, false, false, false, false, false, false, false, false, false, false, false] rfl rfl (take_ofW HT_.out HW_.out (by kernel_rfl)) (fun _ _ _ h => h) (Or.inl ⟨by rfl, ?_⟩) hHeld ?_ ?_
       rotate_left
       ·rintro w' ⟨s0, s1, s2, s3, s4, s5, s6, s7, s8, s9, s10, s11, s12, s13, s14, s15, s16, s17, s18, s19, s20, s21, s22, s23, s24, s25, s26, s27, s28, s29, s30, s31, s32, s33, s34, s35, s36, s37, s38, s39, s40, s41, s42, s43⟩
        go_simp
        with_reducible rfl
       rotate_left
       ·simp only [Act.put, List.setIfInBounds_toArray, List.set_cons_zero, List.set_cons_succ, i64_w, i32_w]
        rfl
       refine pure_ (i := 17) (N := some 58) (v := ?_) (a' := ?_) #[true, true, true, true, true, true, true, true, true, true, true, true, true, true, true, true, true, true, false, false, true, false, true, false, false, false, false, false, false, false, false, false, false, false, false, false, false, false, false, false, false, false, false, false] rfl rfl (any_of HT_.out (by kernel_rfl)) (fun _ _ _ h => h) (Or.inl ⟨by rfl, ?_⟩) ?_ ?_
       rotate_left
       ·intro w'
        go_simp
        with_reducible rfl
       rotate_left
       ·simp only [Act.put, List.setIfInBounds_toArray, List.set_cons_zero, List.set_cons_succ, i64_w, i32_w]
        rfl
       refine pure_ (i := 18) (N := some 59) (v := ?_) (a' := ?_) #[true, true, true, true, true, true, true, true, true, true, true, true, true, true, true, true, true, true, true, false, true, false, true, false, false, false, false, false, false, false, false, false, false, false, false, false, false, false, false, false, false, false, false, false] rfl rfl (any_of HT_.out (by kernel_rfl)) (fun _ _ _ h => h) (Or.inl ⟨by rfl, ?_⟩) ?_ ?_
       rotate_left
       ·intro w'
        go_simp
        with_reducible rfl
       rotate_left
       ·simp only [Act.put, List.setIfInBounds_toArray, List.set_cons_zero, List.set_cons_succ, i64_w, i32_w]
        rfl
       refine take_ (i := 19) (N := some 60) (v := ?_) (a' := ?_) #[true, true, true, true, true, true, true, true, true, true, true, true, true, true, true, true, true, true, true, true, true, false, true, false, false, false, false, false, false, false, false, false, false, false, false, false, false, false, false, false, false, false, false, false] rfl rfl (take_ofW HT_.out HW_.out (by kernel_rfl)) (fun _ _ _ h => h) (Or.inl ⟨by rfl, ?_⟩) hHeld ?_ ?_
       rotate_left
       ·rintro w' ⟨s0, s1, s2, s3, s4, s5, s6, s7, s8, s9, s10, s11, s12, s13, s14, s15, s16, s17, s18, s19, s20, s21, s22, s23, s24, s25, s26, s27, s28, s29, s30, s31, s32, s33, s34, s35, s36, s37, s38, s39, s40, s41, s42, s43⟩
        go_simp
        with_reducible rfl
       rotate_left
       ·simp only [Act.put, List.setIfInBounds_toArray, List.set_cons_zero, List.set_cons_succ, i64_w, i32_w]
        rfl
       refine take_ (i := 21) (N := some 62) (v := ?_) (a' := ?_) #[true, true, true, true, true, true, true, true, true, true, true, true, true, true, true, true, true, true, true, true, true, true, true, false, false, false, false, false, false, false, false, false, false, false, false, false, false, false, false, false, false, false, false, false] rfl rfl (take_ofW HT_.out HW_.out (by kernel_rfl)) (fun _ _ _ h => h) (Or.inl ⟨by rfl, ?_⟩) hHeld ?_ ?_
       rotate_left
       ·rintro w' ⟨s0, s1, s2, s3, s4, s5, s6, s7, s8, s9, s10, s11, s12, s13, s14, s15, s16, s17, s18, s19, s20, s21, s22, s23, s24, s25, s26, s27, s28, s29, s30, s31, s32, s33, s34, s35, s36, s37, s38, s39, s40, s41, s42, s43⟩
        go_simp
        with_reducible rfl
       rotate_left
       ·simp only [Act.put, List.setIfInBounds_toArray, List.set_cons_zero, List.set_cons_succ, i64_w, i32_w]
        rfl
       refine pure_ (i := 23) (N := some 64) (v := ?_) (a' := ?_) #[true, true, true, true, true, true, true, true, true, true, true, true, true, true, true, true, true, true, true, true, true, true, true, true, false, false, false, false, false, false, false, false, false, false, false, false, false, false, false, false, false, false, false, false] rfl rfl (any_of HT_.out (by kernel_rfl)) (fun _ _ _ h => h) (Or.inl ⟨by rfl, ?_⟩) ?_ ?_
       rotate_left
       ·intro w'
        go_simp
        with_reducible rfl
       rotate_left
       ·simp only [Act.put, List.setIfInBounds_toArray, List.set_cons_zero, List.set_cons_succ, i64_w, i32_w]
        rfl
       refine pure_ (i := 24) (N := some 65) (v := ?_) (a' := ?_) #[true, true, true, true, true, true, true, true, true, true, true, true, true, true, true, true, true, true, true, true, true, true, true, true, true, false, false, false, false, false, false, false, false, false, false, false, false, false, false, false, false, false, false, false] rfl rfl (any_of HT_.out (by kernel_rfl)) (fun _ _ _ h => h) (Or.inl ⟨by rfl, ?_⟩) ?_ ?_
       rotate_left
       ·intro w'
        go_simp
        with_reducible rfl
       rotate_left
       ·simp only [Act.put, List.setIfInBounds_toArray, List.set_cons_zero, List.set_cons_succ, i64_w, i32_w]
        rfl
       refine take_ (i := 25) (N := some 66) (v := ?_) (a' := ?_) #[true, true, true, true, true, true, true, true, true, true, true, true, true, true, true, true, true, true, true, true, true, true, true, true, true, true, false, false, false, false, false, false, false, false, false, false, false, false, false, false, false, false, false, false] rfl rfl (take_ofW HT_.out HW_.out (by kernel_rfl)) (fun _ _ _ h => h) (Or.inl ⟨by rfl, ?_⟩) hHeld ?_ ?_
       rotate_left
       ·rintro w' ⟨s0, s1, s2, s3, s4, s5, s6, s7, s8, s9, s10, s11, s12, s13, s14, s15, s16, s17, s18, s19, s20, s21, s22, s23, s24, s25, s26, s27, s28, s29, s30, s31, s32, s33, s34, s35, s36, s37, s38, s39, s40, s41, s42, s43⟩
        go_simp
        with_reducible rfl
       rotate_left
       ·simp only [Act.put, List.setIfInBounds_toArray, List.set_cons_zero, List.set_cons_succ, i64_w, i32_w]
        rfl
       refine pure_ (i := 26) (N := some 67) (v := ?_) (a' := ?_) #[true, true, true, true, true, true, true, true, true, true, true, true, true, true, true, true, true, true, true, true, true, true, true, true, true, true, true, false, false, false, false, false, false, false, false, false, false, false, false, false, false, false, false, false] rfl rfl (any_of HT_.out (by kernel_rfl)) (fun _ _ _ h => h) (Or.inl ⟨by rfl, ?_⟩) ?_ ?_
       rotate_left
       ·intro w'
        go_simp
        with_reducible rfl
       rotate_left
       ·simp only [Act.put, List.setIfInBounds_toArray, List.set_cons_zero, List.set_cons_succ, i64_w, i32_w]
        rfl
       refine pure_ (i := 27) (N := some 68) (v := ?_) (a' := ?_) #[true, true, true, true, true, true, true, true, true, true, true, true, true, true, true, true, true, true, true, true, true, true, true, true, true, true, true, true, false, false, false, false, false, false, false, false, false, false, false, false, false, false, false, false] rfl rfl (any_of HT_.out (by kernel_rfl)) (fun _ _ _ h => h) (Or.inl ⟨by rfl, ?_⟩) ?_ ?_
       rotate_left
       ·intro w'
        go_simp
        with_reducible rfl
       rotate_left
       ·simp only [Act.put, List.setIfInBounds_toArray, List.set_cons_zero, List.set_cons_succ, i64_w, i32_w]
        rfl
       refine pure_ (i := 28) (N := some 69) (v := ?_) (a' := ?_) #[true, true, true, true, true, true, true, true, true, true, true, true, true, true, true, true, true, true, true, true, true, true, true, true, true, true, true, true, true, false, false, false, false, false, false, false, false, false, false, false, false, false, false, false] rfl rfl (any_of HT_.out (by kernel_rfl)) (fun _ _ _ h => h) (Or.inl ⟨by rfl, ?_⟩) ?_ ?_
       rotate_left
       ·intro w'
        go_simp
        with_reducible rfl
       rotate_left
       ·simp only [Act.put, List.setIfInBounds_toArray, List.set_cons_zero, List.set_cons_succ, i64_w, i32_w]
        rfl
       refine pure_ (i := 29) (N := some 70) (v := ?_) (a' := ?_) #[true, true, true, true, true, true, true, true, true, true, true, true, true, true, true, true, true, true, true, true, true, true, true, true, true, true, true, true, true, true, false, false, false, false, false, false, false, false, false, false, false, false, false, false] rfl rfl (any_of HT_.out (by kernel_rfl)) (fun _ _ _ h => h) (Or.inl ⟨by rfl, ?_⟩) ?_ ?_
       rotate_left
       ·intro w'
        go_simp
        with_reducible rfl
       rotate_left
       ·simp only [Act.put, List.setIfInBounds_toArray, List.set_cons_zero, List.set_cons_succ, i64_w, i32_w]
        rfl
       refine pure_ (i := 31) (N := some 72) (v := ?_) (a' := ?_) #[true, true, true, true, true, true, true, true, true, true, true, true, true, true, true, true, true, true, true, true, true, true, true, true, true, true, true, true, true, true, false, true, false, false, false, false, false, false, false, false, false, false, false, false] rfl rfl (any_of HT_.out (by kernel_rfl)) (fun _ _ _ h => h) (Or.inl ⟨by rfl, ?_⟩) ?_ ?_
       rotate_left
       ·intro w'
        go_simp
        with_reducible rfl
       rotate_left
       ·simp only [Act.put, List.setIfInBounds_toArray, List.set_cons_zero, List.set_cons_succ, i64_w, i32_w]
        rfl
       refine pure_ (i := 35) (N := some 76) (v := ?_) (a' := ?_) #[true, true, true, true, true, true, true, true, true, true, true, true, true, true, true, true, true, true, true, true, true, true, true, true, true, true, true, true, true, true, false, true, false, false, false, true, false, false, false, false, false, false, false, false] rfl rfl (any_of HT_.out (by kernel_rfl)) (fun _ _ _ h => h) (Or.inl ⟨by rfl, ?_⟩) ?_ ?_
       rotate_left
       ·intro w'
        go_simp
        with_reducible rfl
       rotate_left
       ·simp only [Act.put, List.setIfInBounds_toArray, List.set_cons_zero, List.set_cons_succ, i64_w, i32_w]
        rfl
       refine pure_ (i := 37) (N := some 78) (v := ?_) (a' := ?_) #[true, true, true, true, true, true, true, true, true, true, true, true, true, true, true, true, true, true, true, true, true, true, true, true, true, true, true, true, true, true, false, true, false, false, false, true, false, true, false, false, false, false, false, false] rfl rfl (any_of HT_.out (by kernel_rfl)) (fun _ _ _ h => h) (Or.inl ⟨by rfl, ?_⟩) ?_ ?_
       rotate_left
       ·intro w'
        go_simp
        with_reducible rfl
       rotate_left
       ·simp only [Act.put, List.setIfInBounds_toArray, List.set_cons_zero, List.set_cons_succ, i64_w, i32_w]
        rfl
       refine take_ (i := 30) (N := some 71) (v := ?_) (a' := ?_) #[true, true, true, true, true, true, true, true, true, true, true, true, true, true, true, true, true, true, true, true, true, true, true, true, true, true, true, true, true, true, true, true, false, false, false, true, false, true, false, false, false, false, false, false] rfl rfl (take_ofW HT_.out HW_.out (by kernel_rfl)) (fun _ _ _ h => h) (Or.inl ⟨by rfl, ?_⟩) hHeld ?_ ?_
       rotate_left
       ·rintro w' ⟨s0, s1, s2, s3, s4, s5, s6, s7, s8, s9, s10, s11, s12, s13, s14, s15, s16, s17, s18, s19, s20, s21, s22, s23, s24, s25, s26, s27, s28, s29, s30, s31, s32, s33, s34, s35, s36, s37, s38, s39, s40, s41, s42, s43⟩
        go_simp
        with_reducible rfl
       rotate_left
       ·simp only [Act.put, List.setIfInBounds_toArray, List.set_cons_zero, List.set_cons_succ, i64_w, i32_w]
        rfl
       refine pure_ (i := 32) (N := some 73) (v := ?_) (a' := ?_) #[true, true, true, true, true, true, true, true, true, true, true, true, true, true, true, true, true, true, true, true, true, true, true, true, true, true, true, true, true, true, true, true, true, false, false, true, false, true, false, false, false, false, false, false] rfl rfl (any_of HT_.out (by kernel_rfl)) (fun _ _ _ h => h) (Or.inl ⟨by rfl, ?_⟩) ?_ ?_
       rotate_left
       ·intro w'
        go_simp
        with_reducible rfl
       rotate_left
       ·simp only [Act.put, List.setIfInBounds_toArray, List.set_cons_zero, List.set_cons_succ, i64_w, i32_w]
        rfl
       refine pure_ (i := 33) (N := some 74) (v := ?_) (a' := ?_) #[true, true, true, true, true, true, true, true, true, true, true, true, true, true, true, true, true, true, true, true, true, true, true, true, true, true, true, true, true, true, true, true, true, true, false, true, false, true, false, false, false, false, false, false] rfl rfl (any_of HT_.out (by kernel_rfl)) (fun _ _ _ h => h) (Or.inl ⟨by rfl, ?_⟩) ?_ ?_
       rotate_left
       ·intro w'
        go_simp
        with_reducible rfl
       rotate_left
       ·simp only [Act.put, List.setIfInBounds_toArray, List.set_cons_zero, List.set_cons_succ, i64_w, i32_w]
        rfl
       refine take_ (i := 34) (N := some 75) (v := ?_) (a' := ?_) #[true, true, true, true, true, true, true, true, true, true, true, true, true, true, true, true, true, true, true, true, true, true, true, true, true, true, true, true, true, true, true, true, true, true, true, true, false, true, false, false, false, false, false, false] rfl rfl (take_ofW HT_.out HW_.out (by kernel_rfl)) (fun _ _ _ h => h) (Or.inl ⟨by rfl, ?_⟩) hHeld ?_ ?_
       rotate_left
       ·rintro w' ⟨s0, s1, s2, s3, s4, s5, s6, s7, s8, s9, s10, s11, s12, s13, s14, s15, s16, s17, s18, s19, s20, s21, s22, s23, s24, s25, s26, s27, s28, s29, s30, s31, s32, s33, s34, s35, s36, s37, s38, s39, s40, s41, s42, s43⟩
        go_simp
        with_reducible rfl
       rotate_left
       ·simp only [Act.put, List.setIfInBounds_toArray, List.set_cons_zero, List.set_cons_succ, i64_w, i32_w]
        rfl
       refine take_ (i := 36) (N := some 77) (v := ?_) (a' := ?_) #[true, true, true, true, true, true, true, true, true, true, true, true, true, true, true, true, true, true, true, true, true, true, true, true, true, true, true, true, true, true, true, true, true, true, true, true, true, true, false, false, false, false, false, false] rfl rfl (take_ofW HT_.out HW_.out (by kernel_rfl)) (fun _ _ _ h => h) (Or.inl ⟨by rfl, ?_⟩) hHeld ?_ ?_
       rotate_left
       ·rintro w' ⟨s0, s1, s2, s3, s4, s5, s6, s7, s8, s9, s10, s11, s12, s13, s14, s15, s16, s17, s18, s19, s20, s21, s22, s23, s24, s25, s26, s27, s28, s29, s30, s31, s32, s33, s34, s35, s36, s37, s38, s39, s40, s41, s42, s43⟩
        go_simp
        with_reducible rfl
       rotate_left
       ·simp only [Act.put, List.setIfInBounds_toArray, List.set_cons_zero, List.set_cons_succ, i64_w, i32_w]
        rfl
       refine pure_ (i := 38) (N := some 79) (v := ?_) (a' := ?_) #[true, true, true, true, true, true, true, true, true, true, true, true, true, true, true, true, true, true, true, true, true, true, true, true, true, true, true, true, true, true, true, true, true, true, true, true, true, true, true, false, false, false, false, false] rfl rfl (any_of HT_.out (by kernel_rfl)) (fun _ _ _ h => h) (Or.inl ⟨by rfl, ?_⟩) ?_ ?_
       rotate_left
       ·intro w'
        go_simp
        with_reducible rfl
       rotate_left
       ·simp only [Act.put, List.setIfInBounds_toArray, List.set_cons_zero, List.set_cons_succ, i64_w, i32_w]
        rfl
       refine pure_ (i := 39) (N := some 80) (v := ?_) (a' := ?_) #[true, true, true, true, true, true, true, true, true, true, true, true, true, true, true, true, true, true, true, true, true, true, true, true, true, true, true, true, true, true, true, true, true, true, true, true, true, true, true, true, false, false, false, false] rfl rfl (any_of HT_.out (by kernel_rfl)) (fun _ _ _ h => h) (Or.inl ⟨by rfl, ?_⟩) ?_ ?_
       rotate_left
       ·intro w'
        go_simp
        with_reducible rfl
       rotate_left
       ·simp only [Act.put, List.setIfInBounds_toArray, List.set_cons_zero, List.set_cons_succ, i64_w, i32_w]
        rfl
       refine take_ (i := 40) (N := some 81) (v := ?_) (a' := ?_) #[true, true, true, true, true, true, true, true, true, true, true, true, true, true, true, true, true, true, true, true, true, true, true, true, true, true, true, true, true, true, true, true, true, true, true, true, true, true, true, true, true, false, false, false] rfl rfl (take_ofW HT_.out HW_.out (by kernel_rfl)) (fun _ _ _ h => h) (Or.inl ⟨by rfl, ?_⟩) hHeld ?_ ?_
       rotate_left
       ·rintro w' ⟨s0, s1, s2, s3, s4, s5, s6, s7, s8, s9, s10, s11, s12, s13, s14, s15, s16, s17, s18, s19, s20, s21, s22, s23, s24, s25, s26, s27, s28, s29, s30, s31, s32, s33, s34, s35, s36, s37, s38, s39, s40, s41, s42, s43⟩
        go_simp
        with_reducible rfl
       rotate_left
       ·simp only [Act.put, List.setIfInBounds_toArray, List.set_cons_zero, List.set_cons_succ, i64_w, i32_w]
        rfl
       refine one_ (i := 41) (N := some 82) #[true, true, true, true, true, true, true, true, true, true, true, true, true, true, true, true, true, true, true, true, true, true, true, true, true, true, true, true, true, true, true, true, true, true, true, true, true, true, true, true, true, true, false, false] rfl rfl (one_of HT_.out (by kernel_rfl)) (by decide) (fun K hK => ?_); refine goes_ Tryd.func76 (by kernel_rfl) rfl #[.agg #[.int .i64 ((rd_T127 l0_2 x5_2).f0.f0), .int .u64 ((rd_T127 l0_2 x5_2).f0.f1), .int .u64 ((rd_T127 l0_2 x5_2).f0.f2), .slice A260_3 ((rd_T127 l0_2 x5_2).f0.f3).length c260_3], .agg #[.int .i64 ((rd_T127 l1_2 x5_2).f0.f0), .int .u64 ((rd_T127 l1_2 x5_2).f0.f1), .int .u64 ((rd_T127 l1_2 x5_2).f0.f2), .slice A261_3 ((rd_T127 l1_2 x5_2).f0.f3).length c261_3]] (by rfl) rfl rfl (by (try simp only [List.map_toArray, List.map_cons, List.map_nil]); first | done | rfl | (simp only [List.length_drop, List.length_take]; rfl)) ?_
       with_reducible refine (tikref13_SameRecord.calls ((rd_T127 l0_2 x5_2).f0.f0) ((rd_T127 l0_2 x5_2).f0.f1) ((rd_T127 l0_2 x5_2).f0.f2) _ _ ((rd_T127 l0_2 x5_2).f0.f3) ((rd_T127 l1_2 x5_2).f0.f0) ((rd_T127 l1_2 x5_2).f0.f1) ((rd_T127 l1_2 x5_2).f0.f2) _ _ ((rd_T127 l1_2 x5_2).f0.f3) true _ ?side1 ?side2 ?side3 ?side4 A27.out).mono ?_
       (case side1 => repeat (first | exact (Kd.C_below HR264_3.out HB.out) | (with_reducible refine Kd.C_alloc ?_ _) | (with_reducible refine Kd.C_drewN ?_ _) | (with_reducible refine Kd.C_drew ?_))); (case side2 => exact HC264_3.out); (case side3 => repeat (first | exact (Kd.C_below HR265_3.out HB.out) | (with_reducible refine Kd.C_alloc ?_ _) | (with_reducible refine Kd.C_drewN ?_ _) | (with_reducible refine Kd.C_drew ?_))); (case side4 => exact HC265_3.out); rintro e w32 ⟨rfl, hb⟩; refine ⟨_, rfl, ?_⟩; have n0_ := Aside0.mk (blk_below (g := gb258) (o := .cells #[.int .i64 a0_0, .int .u64 a0_1, .slice (some ad260) l0_2.length c0_2, .int .i64 a0_3] 77 (0, 0)) (bx_ BK258) hb); have n1_ := Aside0.mk (blk_below (g := gb259) (o := .cells #[.int .i64 a1_0, .int .u64 a1_1, .slice (some ad261) l1_2.length c1_2, .int .i64 a1_3] 77 (0, 0)) (bx_ BK259) hb); have n2_ := Aside0.mk (below_step (by repeat (first | (with_reducible first | exact HB.out | apply yA | apply yN | apply yD | refine yS ?_ GE258.out | refine yS ?_ GE259.out) | exact HB.out)) hb); clear BK258; clear BK259; clear HB; have BK258 := n0_; have BK259 := n1_; have HB := n2_; clear n0_ n1_ n2_; (try clear hb); (try clear hb2); (try clear hk); (try clear hi); refine hK.out _ _ ⟨(blk_cell BK258.out 0).trans rfl, (blk_cell BK258.out 1).trans rfl, (blk_cell BK258.out 2).trans rfl, (blk_cell BK258.out 3).trans rfl, (blk_cell BK259.out 0).trans rfl, (blk_cell BK259.out 1).trans rfl, (blk_cell BK259.out 2).trans rfl, (blk_cell BK259.out 3).trans rfl, ((HB.out.cell (World.block_lt_of_cell? w _ hw260_0)).trans hw260_0), ((HB.out.cell (World.block_lt_of_cell? w _ hw260_1)).trans hw260_1), ((HB.out.cell (World.block_lt_of_cell? w _ hw260_2)).trans hw260_2), ((HB.out.cell (World.block_lt_of_cell? w _ hw260_3)).trans hw260_3), ((HB.out.cell (World.block_lt_of_cell? w _ hw260_4)).trans hw260_4), ((HB.out.cell (World.block_lt_of_cell? w _ hw260_5)).trans hw260_5), ((HB.out.cell (World.block_lt_of_cell? w _ hw261_0)).trans hw261_0), ((HB.out.cell (World.block_lt_of_cell? w _ hw261_1)).trans hw261_1), ((HB.out.cell (World.block_lt_of_cell? w _ hw261_2)).trans hw261_2), ((HB.out.cell (World.block_lt_of_cell? w _ hw261_3)).trans hw261_3), ((HB.out.cell (World.block_lt_of_cell? w _ hw261_4)).trans hw261_4), ((HB.out.cell (World.block_lt_of_cell? w _ hw261_5)).trans hw261_5), ((HB.out.cell (World.block_lt_of_cell? w _ hw262_0)).trans hw262_0), ((HB.out.cell (World.block_lt_of_cell? w _ hw262_1)).trans hw262_1), ((HB.out.cell (World.block_lt_of_cell? w _ hw262_2)).trans hw262_2), ((HB.out.cell (World.block_lt_of_cell? w _ hw262_3)).trans hw262_3), ((HB.out.cell (World.block_lt_of_cell? w _ hw262_4)).trans hw262_4), ((HB.out.cell (World.block_lt_of_cell? w _ hw262_5)).trans hw262_5), ((HB.out.cell (World.block_lt_of_cell? w _ hw263_0)).trans hw263_0), ((HB.out.cell (World.block_lt_of_cell? w _ hw263_1)).trans hw263_1), ((HB.out.cell (World.block_lt_of_cell? w _ hw263_2)).trans hw263_2), ((HB.out.cell (World.block_lt_of_cell? w _ hw263_3)).trans hw263_3), ((HB.out.cell (World.block_lt_of_cell? w _ hw263_4)).trans hw263_4), ((HB.out.cell (World.block_lt_of_cell? w _ hw263_5)).trans hw263_5), ((HB.out.cell (World.block_lt_of_cell? w _ hw264_0)).trans hw264_0), ((HB.out.cell (World.block_lt_of_cell? w _ hw264_1)).trans hw264_1), ((HB.out.cell (World.block_lt_of_cell? w _ hw264_2)).trans hw264_2), ((HB.out.cell (World.block_lt_of_cell? w _ hw264_3)).trans hw264_3), ((HB.out.cell (World.block_lt_of_cell? w _ hw264_4)).trans hw264_4), ((HB.out.cell (World.block_lt_of_cell? w _ hw264_5)).trans hw264_5), ((HB.out.cell (World.block_lt_of_cell? w _ hw265_0)).trans hw265_0), ((HB.out.cell (World.block_lt_of_cell? w _ hw265_1)).trans hw265_1), ((HB.out.cell (World.block_lt_of_cell? w _ hw265_2)).trans hw265_2), ((HB.out.cell (World.block_lt_of_cell? w _ hw265_3)).trans hw265_3), ((HB.out.cell (World.block_lt_of_cell? w _ hw265_4)).trans hw265_4), ((HB.out.cell (World.block_lt_of_cell? w _ hw265_5)).trans hw265_5)⟩ (fun hHeld => ?_); clear hK K; refine norm_ (a' := ?_) ?_ ?_
       rotate_left
       ·show Act.put _ (some 82) _ = _
        simp only [Act.put, List.setIfInBounds_toArray, List.set_cons_zero, List.set_cons_succ, i64_w, i32_w]
        rfl
       refine pure_ (i := 42) (N := some 83) (v := ?_) (a' := ?_) #[true, true, true, true, true, true, true, true, true, true, true, true, true, true, true, true, true, true, true, true, true, true, true, true, true, true, true, true, true, true, true, true, true, true, true, true, true, true, true, true, true, true, true, false] rfl rfl (any_of HT_.out (by kernel_rfl)) (fun _ _ _ h => h) (Or.inl ⟨by rfl, ?_⟩) ?_ ?_
       rotate_left
       ·intro w'
        go_simp
        with_reducible rfl
       rotate_left
       ·simp only [Act.put, List.setIfInBounds_toArray, List.set_cons_zero, List.set_cons_succ, i64_w, i32_w]
        rfl
       refine pure_ (i := 43) (N := some 84) (v := ?_) (a' := ?_) #[true, true, true, true, true, true, true, true, true, true, true, true, true, true, true, true, true, true, true, true, true, true, true, true, true, true, true, true, true, true, true, true, true, true, true, true, true, true, true, true, true, true, true, true] rfl rfl (any_of HT_.out (by kernel_rfl)) (fun _ _ _ h => h) (Or.inl ⟨by rfl, ?_⟩) ?_ ?_
       rotate_left
       ·intro w'
        go_simp
        with_reducible rfl
       rotate_left
       ·simp only [Act.put, List.setIfInBounds_toArray, List.set_cons_zero, List.set_cons_succ, i64_w, i32_w]
        rfl
       refine done_ (done_of HT_.out (by kernel_rfl)) ?_
       try go_wp2
       go_roundg k2
       case measure => have := HJ2.out; have := HK2.out; omega
       case rel => exact ⟨(wrap64 (x5_2 + 1)), (by first | rfl | (simp; done) | (simp [*]; done)), H', ⟨by have := HJ2.out; have := HK2.out; omega⟩, ⟨by (with_reducible repeat first | apply zN | apply zD | apply zA); exact BK258.out⟩, ⟨by (with_reducible repeat first | apply zN | apply zD | apply zA); exact BK259.out⟩, ⟨by repeat (first | (with_reducible first | exact HB.out | apply yA | apply yN | apply yD | refine yS ?_ GE258.out | refine yS ?_ GE259.out) | exact HB.out)⟩⟩
end Go.Proofs.YtlgfmmkabnbllaaDoor.PS
namespace Go.Proofs.YtlgfmmkabnbllaaDoor.PS
open Go.RowKit Go.Proofs.YtlgfmmkabnbllaaDoorW.PrintWords Go.Proofs.YtlgfmmkabnbllaaDoorW.PrintLast Go.Proofs.YtlgfmmkabnbllaaDoorW.PrintMore
attribute [local go_sem] max2_int min2_int max_two min_two max_three min_three max_four min_four
open Go.Proofs.YtlgfmmkabnbllaaDoor.Hand
open Go.Proofs.YtlgfmmkabnbllaaDoor.PA
set_option linter.unusedVariables false
set_option linter.unusedSimpArgs false
def tiklaw15_Plain.f (a0_0 : Int) (a0_1 : Int) (a0_2 : Int) (l0_3 : List Int) : Option (Int × Int × Int × List Int) := some (a0_0, a0_1, a0_2, l0_3)
set_option maxHeartbeats 8000000 in
set_option maxRecDepth 100000 in
theorem tiklaw15_Plain.calls (a0_0 : Int) (a0_1 : Int) (a0_2 : Int) (P0_3_ : Nat → Prop) (A0_3 : Option Addr) (c0_3 : Nat) (l0_3 : List Int) (r1 : Int) (r2 : Int) (r3 : Int) (r4 : List Int) (w : World) (hs0_3 : Kd.V (Kd.int .u8) 5 w w.heap.size (fun k_ => P0_3_ k_) (.slice A0_3 l0_3.length c0_3) l0_3) (h : tiklaw15_Plain.f a0_0 a0_1 a0_2 l0_3 = some (r1, r2, r3, r4)) :
  Calls Tryd.prog 77 #[.agg #[.int .i64 a0_0, .int .u64 a0_1, .int .u64 a0_2, .slice A0_3 l0_3.length c0_3]] w fun e w' => ∃ v3_ : Value, e = .returned (.agg #[.int .i64 r1, .int .u64 r2, .int .u64 r3, v3_]) ∧ Kd.V (Kd.int .u8) 5 w' w.heap.size (fun k_ => (P0_3_ k_ ∨ w.heap.size ≤ k_)) v3_ r4 ∧ Below w.heap.size w w' := by
 have hu88 := Tryd.underlying88; have hu123 := Tryd.underlying123; have HO0_3 := Aside0.mk (show Kd.V (Kd.int .u8) 5 w w.heap.size (fun k_ => (P0_3_ k_ ∨ w.heap.size ≤ k_)) (.slice A0_3 l0_3.length c0_3) l0_3 from Kd.V_mono hs0_3 (fun k_ hk => .inl hk)); have HB := Aside0.mk (Below.refl w.heap.size w); have H : (some (a0_0, a0_1, a0_2, l0_3)) = some (r1, r2, r3, r4) := h; clear h; (simp only [Option.some.injEq, Prod.mk.injEq] at H); obtain ⟨rfl, rfl, rfl, rfl⟩ := H
 go_enter Tryd.func77, Tryd.ntmps77
 go_wp2_with (first | ((with_reducible refine gate_dst (N := 1) rfl ?_); refine box_event ?hg (N := 1) ?hd (cs := #[.int .i64 a0_0, .int .u64 a0_1, .int .u64 a0_2, .slice A0_3 l0_3.length c0_3]) (t := 88) ?hr ?_; (case hd => rfl); (case hg => rfl); (case hr => first | (go_simp; done) | (go_simp; rfl)); intro gb267 hg w2 hbox hb; have n0_ := Aside0.mk (Kd.V_below (Kd.V_elderB (by (with_reducible repeat first | apply vA_ | apply vN_ | apply vD_); exact HO0_3.out) gb267 (Nat.le_of_eq hg.symm)) hb); have n1_ := Aside0.mk (below_step (hx_ HB) hb); have n2_ := Aside0.mk (hbox); have n3_ := Aside0.mk ((by rw [hg]; exact (below_size (hx_ HB)) : w.heap.size ≤ gb267)); have n4_ := Aside0.mk ((by rw [hg]; exact (below_size (hx_ HB)) : w.heap.size ≤ gb267)); clear HO0_3; clear HB; have HO0_3 := n0_; have HB := n1_; have BK267 := n2_; have GW267 := n3_; have GE267 := n4_; clear n0_ n1_ n2_ n3_ n4_; clear hb hbox hg) | ((with_reducible refine gate_dst (N := 2) rfl ?_); refine box_event ?hg (N := 2) ?hd (cs := #[.int .i64 0, .int .u64 0, .int .u64 0, .slice none 0 0]) (t := 123) ?hr ?_; (case hd => rfl); (case hg => rfl); (case hr => first | (go_simp; done) | (go_simp; rfl)); intro gb268 hg w3 hbox hb; have n0_ := Aside0.mk (Kd.V_below (Kd.V_elderB (by (with_reducible repeat first | apply vA_ | apply vN_ | apply vD_); exact HO0_3.out) gb268 (Nat.le_of_eq hg.symm)) hb); have n1_ := Aside0.mk (blk_below (g := gb267) (o := .cells #[.int .i64 a0_0, .int .u64 a0_1, .int .u64 a0_2, .slice A0_3 l0_3.length c0_3] 88 (0, 0)) (bx_ BK267) hb); have n2_ := Aside0.mk (below_step (by repeat (first | (with_reducible first | exact HB.out | apply yA | apply yN | apply yD | refine yS ?_ GE267.out) | exact HB.out)) hb); have n3_ := Aside0.mk (hbox); have n4_ := Aside0.mk ((by rw [hg]; exact (below_size (by repeat (first | (with_reducible first | exact HB.out | apply yA | apply yN | apply yD | refine yS ?_ GE267.out) | exact HB.out))) : w.heap.size ≤ gb268)); have n5_ := Aside0.mk ((by rw [hg]; exact (below_size (by repeat (first | (with_reducible first | exact HB.out | apply yA | apply yN | apply yD | refine yS ?_ GE267.out) | exact HB.out))) : w.heap.size ≤ gb268)); have n6_ := Aside0.mk ((by rw [hg]; exact Nat.ne_of_lt (blk_lt (g := gb267) (o := .cells #[.int .i64 a0_0, .int .u64 a0_1, .int .u64 a0_2, .slice A0_3 l0_3.length c0_3] 88 (0, 0)) (bx_ BK267)) : gb267 ≠ gb268)); have n7_ := Aside0.mk ((by rw [hg]; exact Nat.ne_of_gt (blk_lt (g := gb267) (o := .cells #[.int .i64 a0_0, .int .u64 a0_1, .int .u64 a0_2, .slice A0_3 l0_3.length c0_3] 88 (0, 0)) (bx_ BK267)) : gb268 ≠ gb267)); clear HO0_3; clear BK267; clear HB; have HO0_3 := n0_; have BK267 := n1_; have HB := n2_; have BK268 := n3_; have GW268 := n4_; have GE268 := n5_; have NB267_268 := n6_; have NB268_267 := n7_; clear n0_ n1_ n2_ n3_ n4_ n5_ n6_ n7_; clear hb hbox hg; have hnb4 := NB267_268.out; have hnc4 := NB268_267.out; have hcz5_0 : w3.cell? ⟨gb267, 0, none⟩ = some (.int .i64 a0_0) := (blk_cell BK267.out 0).trans rfl; have hcz5_1 : w3.cell? ⟨gb267, 1, none⟩ = some (.int .u64 a0_1) := (blk_cell BK267.out 1).trans rfl; have hcz5_2 : w3.cell? ⟨gb267, 2, none⟩ = some (.int .u64 a0_2) := (blk_cell BK267.out 2).trans rfl; have hcz5_3 : w3.cell? ⟨gb267, 3, none⟩ = some (.slice A0_3 l0_3.length c0_3) := (blk_cell BK267.out 3).trans rfl; have hfz5_0 := blk_frozen BK267.out 0; have hfz5_1 := blk_frozen BK267.out 1; have hfz5_2 := blk_frozen BK267.out 2; have hfz5_3 := blk_frozen BK267.out 3; have hcz6_0 : w3.cell? ⟨gb268, 0, none⟩ = some (.int .i64 0) := (blk_cell BK268.out 0).trans rfl; have hcz6_1 : w3.cell? ⟨gb268, 1, none⟩ = some (.int .u64 0) := (blk_cell BK268.out 1).trans rfl; have hcz6_2 : w3.cell? ⟨gb268, 2, none⟩ = some (.int .u64 0) := (blk_cell BK268.out 2).trans rfl; have hcz6_3 : w3.cell? ⟨gb268, 3, none⟩ = some (.slice none 0 0) := (blk_cell BK268.out 3).trans rfl; have hfz6_0 := blk_frozen BK268.out 0; have hfz6_1 := blk_frozen BK268.out 1; have hfz6_2 := blk_frozen BK268.out 2; have hfz6_3 := blk_frozen BK268.out 3))
 refine bodyPost_ret (results_cell_row rfl _ _ gb268 123 #[.int .i64 a0_0, .int .u64 a0_1, .int .u64 a0_2, .slice A0_3 l0_3.length c0_3] (0, 0) _ rfl (by (with_reducible repeat first | apply zN | apply zD | apply zA); refine blk_put (cs := #[.int .i64 a0_0, .int .u64 a0_1, .int .u64 a0_2, .slice none 0 0]) ?_ 3 _ rfl; (with_reducible repeat first | apply zN | apply zD | apply zA); refine blk_put (cs := #[.int .i64 a0_0, .int .u64 a0_1, .int .u64 0, .slice none 0 0]) ?_ 2 _ rfl; (with_reducible repeat first | apply zN | apply zD | apply zA); refine blk_put (cs := #[.int .i64 a0_0, .int .u64 0, .int .u64 0, .slice none 0 0]) ?_ 1 _ rfl; (with_reducible repeat first | apply zN | apply zD | apply zA); refine blk_put (cs := #[.int .i64 0, .int .u64 0, .int .u64 0, .slice none 0 0]) ?_ 0 _ rfl; (with_reducible repeat first | apply zN | apply zD | apply zA); exact BK268.out) Tryd.underlying123 rfl (by kernel_rfl)) rfl ?_; exact ⟨_, by first | rfl | (simp [errW_none, errW_some] <;> rfl) | (simp [*, errW_none, errW_some] <;> rfl), by (with_reducible repeat first | apply vA_ | apply vN_ | apply vD_); exact Kd.V_mono (Kd.V_far (p := ⟨gb268, 3, none⟩) (Kd.V_far (p := ⟨gb268, 2, none⟩) (Kd.V_far (p := ⟨gb268, 1, none⟩) (Kd.V_far (p := ⟨gb268, 0, none⟩) (Kd.V_mono HO0_3.out (fun k_ hk => (⟨hk, hk.2⟩ : _ ∧ k_ ≠ gb268))) (fun _ hk => hk.2) (.int .i64 a0_0)) (fun _ hk => hk.2) (.int .u64 a0_1)) (fun _ hk => hk.2) (.int .u64 a0_2)) (fun _ hk => hk.2) (.slice A0_3 l0_3.length c0_3)) (fun _ hk => hk.1.1.1), by repeat (first | (with_reducible first | exact HB.out | apply yA | apply yN | apply yD | refine yS ?_ GE267.out | refine yS ?_ GE268.out) | exact HB.out)⟩
def tiklaw16_Plain.l0 : Nat → Int → Int → Int → List (S93) → Int → Int → Int → List (S127) → Int → Option (Int × Int × (List (S127)) × Int)
 | 0, _, _, _, _, _, _, _, _, _ => none
 | k + 1, x4, x270000, x270001, x270002, x270003, x272000, x272001, x272002, x272003 => if x4 < (x270002.length : Int) then (if 0 ≤ x4 then ((tiklaw15_Plain.f ((rd_T93 x270002 x4).f0.f0) ((rd_T93 x270002 x4).f0.f1) ((rd_T93 x270002 x4).f0.f2) ((rd_T93 x270002 x4).f0.f3)).bind fun bt273 => (if x272002.length < 2199023255552 then (tiklaw16_Plain.l0 k (wrap64 (x4 + 1)) x270000 x270001 x270002 x270003 x272000 x272001 (x272002 ++ [(⟨(⟨bt273.1, bt273.2.1, bt273.2.2.1, bt273.2.2.2⟩ : S123), (rd_T93 x270002 x4).f1, (rd_T93 x270002 x4).f2⟩ : S127)]) x272003) else (none))) else (none)) else (some (x272000, x272001, x272002, x272003))
def tiklaw16_Plain.f (k : Nat) (a0_0 : Int) (a0_1 : Int) (l0_2 : List (S93)) (a0_3 : Int) : Option (Int × Int × (List (S127)) × Int) := tiklaw16_Plain.l0 k 0 a0_0 a0_1 l0_2 a0_3 a0_0 a0_1 ([] : List (S127)) a0_3
def tiklaw16_Plain.T5 : Bool × List (List Nat × List Nat) := (true, [([], []), ([0], [0]), ([], []), ([2], [2]), ([], []), ([3, 4], [3, 4]), ([5], [5]), ([6], [6]), ([7], [7]), ([], []), ([9], [9]), ([], []), ([10, 11], [10, 11]), ([12], [12]), ([13], [13]), ([], []), ([15], [15]), ([], []), ([16, 17], [16, 17]), ([18], [18]), ([19], [19]), ([8, 14, 20], [8, 14, 20]), ([21], [21]), ([1, 22, 8], [1, 22]), ([0, 1, 2, 3, 4, 5, 6, 7, 8, 9, 10, 11, 12, 13, 14, 15, 16, 17, 18, 19, 20, 21, 22, 23], []), ([24, 23, 23, 0, 1, 2, 3, 4, 5, 6, 7, 8, 9, 10, 11, 12, 13, 14, 15, 16, 17, 18, 19, 20, 21, 22, 23], [23, 24])])
def tiklaw16_Plain.B5 : List Nat := [0, 1, 0, 4, 0, 28, 60, 124, 252, 0, 512, 0, 3584, 7680, 15872, 0, 32768, 0, 229376, 491520, 1015808, 2097148, 4194300, 8388607, 16777215, 33554431]
theorem tiklaw16_Plain.tab5 : rtab .any (opsOf Tryd.f40 5) = tiklaw16_Plain.T5 := by kernel_rfl
theorem tiklaw16_Plain.bits5 : waitsOk tiklaw16_Plain.T5.2 tiklaw16_Plain.B5 = true := by kernel_rfl
set_option maxHeartbeats 8000000 in
set_option maxRecDepth 100000 in
theorem tiklaw16_Plain.calls (k : Nat) (a0_0 : Int) (a0_1 : Int) (P0_2_ : Nat → Prop) (A0_2 : Option Addr) (c0_2 : Nat) (l0_2 : List (S93)) (a0_3 : Int) (r1 : Int) (r2 : Int) (r3 : List (S127)) (r4 : Int) (w : World) (hs0_2 : Kd.V k93 93 w w.heap.size (fun k_ => P0_2_ k_) (.slice A0_2 l0_2.length c0_2) l0_2) (h : tiklaw16_Plain.f k a0_0 a0_1 l0_2 a0_3 = some (r1, r2, r3, r4)) :
  Calls Tryd.prog 40 #[.agg #[.int .i64 a0_0, .int .u64 a0_1, .slice A0_2 l0_2.length c0_2, .int .i64 a0_3]] w fun e w' => ∃ v2_ : Value, e = .returned (.agg #[.int .i64 r1, .int .u64 r2, v2_, .int .i64 r4]) ∧ Kd.N k127 127 w' w.heap.size (fun k_ => (P0_2_ k_ ∨ w.heap.size ≤ k_)) v2_ r3 ∧ Below w.heap.size w w' := by
 have hu72 := Tryd.underlying72; have hu77 := Tryd.underlying77; have hu88 := Tryd.underlying88; have hu127 := Tryd.underlying127; have HO0_2 := Aside0.mk (show Kd.V k93 93 w w.heap.size (fun k_ => (P0_2_ k_ ∨ w.heap.size ≤ k_)) (.slice A0_2 l0_2.length c0_2) l0_2 from Kd.V_mono hs0_2 (fun k_ hk => .inl hk)); have HB := Aside0.mk (Below.refl w.heap.size w); have H : (tiklaw16_Plain.l0 k 0 a0_0 a0_1 l0_2 a0_3 a0_0 a0_1 ([] : List (S127)) a0_3) = some (r1, r2, r3, r4) := h; clear h; have H' := Aside0.mk H; clear H
 go_enter Tryd.func40, Tryd.ntmps40
 go_wp2_with (first | ((with_reducible refine gate_dst (N := 1) rfl ?_); refine box_event ?hg (N := 1) ?hd (cs := #[.int .i64 a0_0, .int .u64 a0_1, .slice A0_2 l0_2.length c0_2, .int .i64 a0_3]) (t := 72) ?hr ?_; (case hd => rfl); (case hg => rfl); (case hr => first | (go_simp; done) | (go_simp; rfl)); intro gb269 hg w2 hbox hb; have n0_ := Aside0.mk (Kd.V_below (Kd.V_elderB (by (with_reducible repeat first | apply vA_ | apply vN_ | apply vD_); exact HO0_2.out) gb269 (Nat.le_of_eq hg.symm)) hb); have n1_ := Aside0.mk (below_step (hx_ HB) hb); have n2_ := Aside0.mk (hbox); have n3_ := Aside0.mk ((by rw [hg]; exact (below_size (hx_ HB)) : w.heap.size ≤ gb269)); have n4_ := Aside0.mk ((by rw [hg]; exact (below_size (hx_ HB)) : w.heap.size ≤ gb269)); clear HO0_2; clear HB; have HO0_2 := n0_; have HB := n1_; have BK269 := n2_; have GW269 := n3_; have GE269 := n4_; clear n0_ n1_ n2_ n3_ n4_; clear hb hbox hg) | ((with_reducible refine gate_dst (N := 2) rfl ?_); refine box_event ?hg (N := 2) ?hd (cs := #[.int .i64 0, .int .u64 0, .slice none 0 0, .int .i64 0]) (t := 77) ?hr ?_; (case hd => rfl); (case hg => rfl); (case hr => first | (go_simp; done) | (go_simp; rfl)); intro gb270 hg w3 hbox hb; have n0_ := Aside0.mk (Kd.V_below (Kd.V_elderB (by (with_reducible repeat first | apply vA_ | apply vN_ | apply vD_); exact HO0_2.out) gb270 (Nat.le_of_eq hg.symm)) hb); have n1_ := Aside0.mk (blk_below (g := gb269) (o := .cells #[.int .i64 a0_0, .int .u64 a0_1, .slice A0_2 l0_2.length c0_2, .int .i64 a0_3] 72 (0, 0)) (bx_ BK269) hb); have n2_ := Aside0.mk (below_step (by repeat (first | (with_reducible first | exact HB.out | apply yA | apply yN | apply yD | refine yS ?_ GE269.out) | exact HB.out)) hb); have n3_ := Aside0.mk (hbox); have n4_ := Aside0.mk ((by rw [hg]; exact (below_size (by repeat (first | (with_reducible first | exact HB.out | apply yA | apply yN | apply yD | refine yS ?_ GE269.out) | exact HB.out))) : w.heap.size ≤ gb270)); have n5_ := Aside0.mk ((by rw [hg]; exact (below_size (by repeat (first | (with_reducible first | exact HB.out | apply yA | apply yN | apply yD | refine yS ?_ GE269.out) | exact HB.out))) : w.heap.size ≤ gb270)); have n6_ := Aside0.mk ((by rw [hg]; exact Nat.ne_of_lt (blk_lt (g := gb269) (o := .cells #[.int .i64 a0_0, .int .u64 a0_1, .slice A0_2 l0_2.length c0_2, .int .i64 a0_3] 72 (0, 0)) (bx_ BK269)) : gb269 ≠ gb270)); have n7_ := Aside0.mk ((by rw [hg]; exact Nat.ne_of_gt (blk_lt (g := gb269) (o := .cells #[.int .i64 a0_0, .int .u64 a0_1, .slice A0_2 l0_2.length c0_2, .int .i64 a0_3] 72 (0, 0)) (bx_ BK269)) : gb270 ≠ gb269)); clear HO0_2; clear BK269; clear HB; have HO0_2 := n0_; have BK269 := n1_; have HB := n2_; have BK270 := n3_; have GW270 := n4_; have GE270 := n5_; have NB269_270 := n6_; have NB270_269 := n7_; clear n0_ n1_ n2_ n3_ n4_ n5_ n6_ n7_; clear hb hbox hg; have hnb4 := NB269_270.out; have hnc4 := NB270_269.out; have hcz5_0 : w3.cell? ⟨gb269, 0, none⟩ = some (.int .i64 a0_0) := (blk_cell BK269.out 0).trans rfl; have hcz5_1 : w3.cell? ⟨gb269, 1, none⟩ = some (.int .u64 a0_1) := (blk_cell BK269.out 1).trans rfl; have hcz5_2 : w3.cell? ⟨gb269, 2, none⟩ = some (.slice A0_2 l0_2.length c0_2) := (blk_cell BK269.out 2).trans rfl; have hcz5_3 : w3.cell? ⟨gb269, 3, none⟩ = some (.int .i64 a0_3) := (blk_cell BK269.out 3).trans rfl; have hfz5_0 := blk_frozen BK269.out 0; have hfz5_1 := blk_frozen BK269.out 1; have hfz5_2 := blk_frozen BK269.out 2; have hfz5_3 := blk_frozen BK269.out 3) | ((with_reducible refine gate_dst (N := 3) rfl ?_); refine box_event ?hg (N := 3) ?hd (cs := #[.int .i64 0, .int .u64 0, .slice none 0 0, .int .i64 0]) (t := 77) ?hr ?_; (case hd => rfl); (case hg => rfl); (case hr => first | (go_simp; done) | (go_simp; rfl)); intro gb271 hg w6 hbox hb; have n0_ := Aside0.mk (Kd.V_below (Kd.V_elderB (by (with_reducible repeat first | apply vA_ | apply vN_ | apply vD_); exact HO0_2.out) gb271 (Nat.le_of_eq hg.symm)) hb); have n1_ := Aside0.mk (blk_below (g := gb269) (o := .cells #[.int .i64 a0_0, .int .u64 a0_1, .slice A0_2 l0_2.length c0_2, .int .i64 a0_3] 72 (0, 0)) (bx_ BK269) hb); have n2_ := Aside0.mk (blk_below (g := gb270) (o := .cells #[.int .i64 0, .int .u64 0, .slice none 0 0, .int .i64 0] 77 (0, 0)) (bx_ BK270) hb); have n3_ := Aside0.mk (below_step (by repeat (first | (with_reducible first | exact HB.out | apply yA | apply yN | apply yD | refine yS ?_ GE269.out | refine yS ?_ GE270.out) | exact HB.out)) hb); have n4_ := Aside0.mk (hbox); have n5_ := Aside0.mk ((by rw [hg]; exact (below_size (by repeat (first | (with_reducible first | exact HB.out | apply yA | apply yN | apply yD | refine yS ?_ GE269.out | refine yS ?_ GE270.out) | exact HB.out))) : w.heap.size ≤ gb271)); have n6_ := Aside0.mk ((by rw [hg]; exact (below_size (by repeat (first | (with_reducible first | exact HB.out | apply yA | apply yN | apply yD | refine yS ?_ GE269.out | refine yS ?_ GE270.out) | exact HB.out))) : w.heap.size ≤ gb271)); have n7_ := Aside0.mk ((by rw [hg]; exact Nat.ne_of_lt (blk_lt (g := gb269) (o := .cells #[.int .i64 a0_0, .int .u64 a0_1, .slice A0_2 l0_2.length c0_2, .int .i64 a0_3] 72 (0, 0)) (bx_ BK269)) : gb269 ≠ gb271)); have n8_ := Aside0.mk ((by rw [hg]; exact Nat.ne_of_gt (blk_lt (g := gb269) (o := .cells #[.int .i64 a0_0, .int .u64 a0_1, .slice A0_2 l0_2.length c0_2, .int .i64 a0_3] 72 (0, 0)) (bx_ BK269)) : gb271 ≠ gb269)); have n9_ := Aside0.mk ((by rw [hg]; exact Nat.ne_of_lt (blk_lt (g := gb270) (o := .cells #[.int .i64 0, .int .u64 0, .slice none 0 0, .int .i64 0] 77 (0, 0)) (bx_ BK270)) : gb270 ≠ gb271)); have n10_ := Aside0.mk ((by rw [hg]; exact Nat.ne_of_gt (blk_lt (g := gb270) (o := .cells #[.int .i64 0, .int .u64 0, .slice none 0 0, .int .i64 0] 77 (0, 0)) (bx_ BK270)) : gb271 ≠ gb270)); clear HO0_2; clear BK269; clear BK270; clear HB; have HO0_2 := n0_; have BK269 := n1_; have BK270 := n2_; have HB := n3_; have BK271 := n4_; have GW271 := n5_; have GE271 := n6_; have NB269_271 := n7_; have NB271_269 := n8_; have NB270_271 := n9_; have NB271_270 := n10_; clear n0_ n1_ n2_ n3_ n4_ n5_ n6_ n7_ n8_ n9_ n10_; clear hb hbox hg; have hnb7 := NB271_269.out; have hnc7 := NB269_271.out; have hnb8 := NB271_270.out; have hnc8 := NB270_271.out; have hcz9_0 : w6.cell? ⟨gb271, 0, none⟩ = some (.int .i64 0) := (blk_cell BK271.out 0).trans rfl; have hcz9_1 : w6.cell? ⟨gb271, 1, none⟩ = some (.int .u64 0) := (blk_cell BK271.out 1).trans rfl; have hcz9_2 : w6.cell? ⟨gb271, 2, none⟩ = some (.slice none 0 0) := (blk_cell BK271.out 2).trans rfl; have hcz9_3 : w6.cell? ⟨gb271, 3, none⟩ = some (.int .i64 0) := (blk_cell BK271.out 3).trans rfl; have hfz9_0 := blk_frozen BK271.out 0; have hfz9_1 := blk_frozen BK271.out 1; have hfz9_2 := blk_frozen BK271.out 2; have hfz9_3 := blk_frozen BK271.out 3))
 go_loopg [4] k (fun kq v4 w' => ∃ (x4_1 : Int) (x272002_1 : List (S127)) (u272002 : Value), v4 = .int .i64 x4_1 ∧ Aside0 (tiklaw16_Plain.l0 kq x4_1 a0_0 a0_1 l0_2 a0_3 a0_0 a0_1 x272002_1 a0_3 = some (r1, r2, r3, r4)) ∧ Aside0 (kq ≤ k) ∧ Aside0 (Kd.V k93 93 w' w.heap.size (fun k_ => (P0_2_ k_ ∨ w.heap.size ≤ k_) ∧ some k_ ≠ (u272002 : Value).ownBlock ∧ k_ ≠ gb269 ∧ k_ ≠ gb270 ∧ k_ ≠ gb271) (.slice A0_2 l0_2.length c0_2) l0_2) ∧ Aside0 (Kd.N k127 127 w' w.heap.size (fun k_ => (P0_2_ k_ ∨ w.heap.size ≤ k_) ∧ k_ ≠ gb269 ∧ k_ ≠ gb270 ∧ k_ ≠ gb271) u272002 x272002_1) ∧ Aside0 (w'.heap[gb269]? = some (.cells #[.int .i64 a0_0, .int .u64 a0_1, (.slice A0_2 l0_2.length c0_2), .int .i64 a0_3] 72 (0, 0))) ∧ Aside0 (w'.heap[gb270]? = some (.cells #[.int .i64 0, .int .u64 0, (.slice none 0 0), .int .i64 0] 77 (0, 0))) ∧ Aside0 (w'.heap[gb271]? = some (.cells #[.int .i64 a0_0, .int .u64 a0_1, u272002, .int .i64 a0_3] 77 (0, 0))) ∧ Aside0 (Below w.heap.size w w'))
 case atStart => exact ⟨(0), (([] : List (S127))), (.slice none 0 0), (by first | rfl | (simp; done) | (simp [*]; done)), H', ⟨Nat.le_refl _⟩, ⟨by (with_reducible repeat first | apply vA_ | apply vN_ | apply vD_); exact Kd.V_mono (Kd.V_far (p := ⟨gb271, 3, none⟩) (Kd.V_far (p := ⟨gb271, 2, none⟩) (Kd.V_far (p := ⟨gb271, 1, none⟩) (Kd.V_far (p := ⟨gb271, 0, none⟩) (Kd.V_mono HO0_2.out (fun k_ hk => (⟨hk, hk.2⟩ : _ ∧ k_ ≠ gb271))) (fun _ hk => hk.2) (.int .i64 a0_0)) (fun _ hk => hk.2) (.int .u64 a0_1)) (fun _ hk => hk.2) (.slice none 0 0)) (fun _ hk => hk.2) (.int .i64 a0_3)) (fun _ hk => ⟨hk.1.1.1.1, ⟨(by simp [Value.ownBlock]), ⟨hk.1.1.1.2, ⟨hk.1.1.2, hk.1.2⟩⟩⟩⟩)⟩, ⟨by first | exact Kd.S_nil _ _ _ _ _ | exact Kd.N_nil _ _ _ _ _ | exact Kd.V_nil _ _ _ _ _ | exact Kd.Q_nil _ _ _ _ _ | exact Kd.R_nil _ _ _ _ _⟩, ⟨by (with_reducible repeat first | apply zN | apply zD | apply zA); refine blk_far ?_ NB269_271.out _; (with_reducible repeat first | apply zN | apply zD | apply zA); refine blk_far ?_ NB269_271.out _; (with_reducible repeat first | apply zN | apply zD | apply zA); refine blk_far ?_ NB269_271.out _; (with_reducible repeat first | apply zN | apply zD | apply zA); refine blk_far ?_ NB269_271.out _; (with_reducible repeat first | apply zN | apply zD | apply zA); exact BK269.out⟩, ⟨by (with_reducible repeat first | apply zN | apply zD | apply zA); refine blk_far ?_ NB270_271.out _; (with_reducible repeat first | apply zN | apply zD | apply zA); refine blk_far ?_ NB270_271.out _; (with_reducible repeat first | apply zN | apply zD | apply zA); refine blk_far ?_ NB270_271.out _; (with_reducible repeat first | apply zN | apply zD | apply zA); refine blk_far ?_ NB270_271.out _; (with_reducible repeat first | apply zN | apply zD | apply zA); exact BK270.out⟩, ⟨by (with_reducible repeat first | apply zN | apply zD | apply zA); refine blk_put (cs := #[.int .i64 a0_0, .int .u64 a0_1, .slice none 0 0, .int .i64 0]) ?_ 3 _ rfl; (with_reducible repeat first | apply zN | apply zD | apply zA); refine blk_put (cs := #[.int .i64 a0_0, .int .u64 a0_1, .slice none 0 0, .int .i64 0]) ?_ 2 _ rfl; (with_reducible repeat first | apply zN | apply zD | apply zA); refine blk_put (cs := #[.int .i64 a0_0, .int .u64 0, .slice none 0 0, .int .i64 0]) ?_ 1 _ rfl; (with_reducible repeat first | apply zN | apply zD | apply zA); refine blk_put (cs := #[.int .i64 0, .int .u64 0, .slice none 0 0, .int .i64 0]) ?_ 0 _ rfl; (with_reducible repeat first | apply zN | apply zD | apply zA); exact BK271.out⟩, ⟨by repeat (first | (with_reducible first | exact HB.out | apply yA | apply yN | apply yD | refine yS ?_ GE269.out | refine yS ?_ GE270.out | refine yS ?_ GE271.out) | exact HB.out)⟩⟩
 case round =>
  clear H'; (try clear p2); (try clear c4); (try clear c7); (try clear c8); (try clear hcz5_0); (try clear hcz5_1); (try clear hcz5_2); (try clear hcz5_3); (try clear hcz9_0); (try clear hcz9_1); (try clear hcz9_2); (try clear hcz9_3); (try clear hfz5_0); (try clear hfz5_1); (try clear hfz5_2); (try clear hfz5_3); (try clear hfz9_0); (try clear hfz9_1); (try clear hfz9_2); (try clear hfz9_3); obtain ⟨x4_1, x272002_1, u272002, rfl, HA, HK1, HO_270002, HO_272002, BK269, BK270, BK271, HB⟩ := hrel
  cases gk with
  | zero => exact absurd HA.out (by simp [tiklaw16_Plain.l0])
  | succ k1 =>
   have H := HA.out; clear HA; (simp only [tiklaw16_Plain.l0] at H)
   by_cases c10 : x4_1 < (l0_2.length : Int)
   rotate_left
   ·rw [if_neg c10] at H
    have c10b0 : decide (x4_1 < (l0_2.length : Int)) = false := decide_eq_false c10; clear c10; (simp only [Option.some.injEq, Prod.mk.injEq] at H); obtain ⟨rfl, rfl, rfl, rfl⟩ := H; have hnb23 := NB269_270.out; have hnc23 := NB270_269.out; have hnb24 := NB269_271.out; have hnc24 := NB271_269.out; have hcz25_0 : wr.cell? ⟨gb269, 0, none⟩ = some (.int .i64 a0_0) := (blk_cell BK269.out 0).trans rfl; have hcz25_1 : wr.cell? ⟨gb269, 1, none⟩ = some (.int .u64 a0_1) := (blk_cell BK269.out 1).trans rfl; have hcz25_2 : wr.cell? ⟨gb269, 2, none⟩ = some (.slice A0_2 l0_2.length c0_2) := (blk_cell BK269.out 2).trans rfl; have hcz25_3 : wr.cell? ⟨gb269, 3, none⟩ = some (.int .i64 a0_3) := (blk_cell BK269.out 3).trans rfl; have hfz25_0 := blk_frozen BK269.out 0; have hfz25_1 := blk_frozen BK269.out 1; have hfz25_2 := blk_frozen BK269.out 2; have hfz25_3 := blk_frozen BK269.out 3; have hnb26 := NB271_270.out; have hnc26 := NB270_271.out; have hcz27_0 : wr.cell? ⟨gb271, 0, none⟩ = some (.int .i64 a0_0) := (blk_cell BK271.out 0).trans rfl; have hcz27_1 : wr.cell? ⟨gb271, 1, none⟩ = some (.int .u64 a0_1) := (blk_cell BK271.out 1).trans rfl; have hcz27_2 : wr.cell? ⟨gb271, 2, none⟩ = some (u272002) := (blk_cell BK271.out 2).trans rfl; have hcz27_3 : wr.cell? ⟨gb271, 3, none⟩ = some (.int .i64 a0_3) := (blk_cell BK271.out 3).trans rfl; have hfz27_0 := blk_frozen BK271.out 0; have hfz27_1 := blk_frozen BK271.out 1; have hfz27_2 := blk_frozen BK271.out 2; have hfz27_3 := blk_frozen BK271.out 3; have hcz28_0 : wr.cell? ⟨gb270, 0, none⟩ = some (.int .i64 0) := (blk_cell BK270.out 0).trans rfl; have hcz28_1 : wr.cell? ⟨gb270, 1, none⟩ = some (.int .u64 0) := (blk_cell BK270.out 1).trans rfl; have hcz28_2 : wr.cell? ⟨gb270, 2, none⟩ = some (.slice none 0 0) := (blk_cell BK270.out 2).trans rfl; have hcz28_3 : wr.cell? ⟨gb270, 3, none⟩ = some (.int .i64 0) := (blk_cell BK270.out 3).trans rfl; have hfz28_0 := blk_frozen BK270.out 0; have hfz28_1 := blk_frozen BK270.out 1; have hfz28_2 := blk_frozen BK270.out 2; have hfz28_3 := blk_frozen BK270.out 3; obtain ⟨Ao29, co29, eo29⟩ := Kd.N_slice HO_272002.out; subst eo29
    go_wp2
    refine bodyPost_ret (results_cell_row rfl _ _ gb270 77 #[.int .i64 a0_0, .int .u64 a0_1, .slice Ao29 x272002_1.length co29, .int .i64 a0_3] (0, 0) _ rfl (by (with_reducible repeat first | apply zN | apply zD | apply zA); refine blk_put (cs := #[.int .i64 a0_0, .int .u64 a0_1, .slice Ao29 x272002_1.length co29, .int .i64 0]) ?_ 3 _ rfl; (with_reducible repeat first | apply zN | apply zD | apply zA); refine blk_put (cs := #[.int .i64 a0_0, .int .u64 a0_1, .slice none 0 0, .int .i64 0]) ?_ 2 _ rfl; (with_reducible repeat first | apply zN | apply zD | apply zA); refine blk_put (cs := #[.int .i64 a0_0, .int .u64 0, .slice none 0 0, .int .i64 0]) ?_ 1 _ rfl; (with_reducible repeat first | apply zN | apply zD | apply zA); refine blk_put (cs := #[.int .i64 0, .int .u64 0, .slice none 0 0, .int .i64 0]) ?_ 0 _ rfl; (with_reducible repeat first | apply zN | apply zD | apply zA); exact BK270.out) Tryd.underlying77 rfl (by kernel_rfl)) rfl ?_; exact ⟨_, by first | rfl | (simp [errW_none, errW_some] <;> rfl) | (simp [*, errW_none, errW_some] <;> rfl), by (with_reducible repeat first | apply nA_ | apply nN_ | apply nD_); exact Kd.N_mono (Kd.N_far (p := ⟨gb270, 3, none⟩) (Kd.N_far (p := ⟨gb270, 2, none⟩) (Kd.N_far (p := ⟨gb270, 1, none⟩) (Kd.N_far (p := ⟨gb270, 0, none⟩) (Kd.N_mono HO_272002.out (fun k_ hk => (⟨hk, hk.2.2.1⟩ : _ ∧ k_ ≠ gb270))) (fun _ hk => hk.2) (.int .i64 a0_0)) (fun _ hk => hk.2) (.int .u64 a0_1)) (fun _ hk => hk.2) (.slice Ao29 x272002_1.length co29)) (fun _ hk => hk.2) (.int .i64 a0_3)) (fun _ hk => hk.1.1), by repeat (first | (with_reducible first | exact HB.out | apply yA | apply yN | apply yD | refine yS ?_ GE269.out | refine yS ?_ GE270.out | refine yS ?_ GE271.out) | exact HB.out)⟩
   (rw [if_pos c10] at H); have c10b0 : decide (x4_1 < (l0_2.length : Int)) = true := decide_eq_true c10; clear c10
   by_cases c11 : 0 ≤ x4_1
   rotate_left
   ·rw [if_neg c11] at H
    exact absurd H (by simp)
   (rw [if_pos c11] at H); have c11b0 : decide (0 ≤ x4_1) = true := decide_eq_true c11; clear c11; replace H := Option.bind_eq_some_iff.mp H; obtain ⟨⟨t273, t274, t275, t276⟩, A120, H⟩ := H; replace H : (if x272002_1.length < 2199023255552 then (tiklaw16_Plain.l0 k1 (wrap64 (x4_1 + 1)) a0_0 a0_1 l0_2 a0_3 a0_0 a0_1 (x272002_1 ++ [(⟨(⟨t273, t274, t275, t276⟩ : S123), (rd_T93 l0_2 x4_1).f1, (rd_T93 l0_2 x4_1).f2⟩ : S127)]) a0_3) else (none)) = some (r1, r2, r3, r4) := H; have A12 := Aside0.mk A120; clear A120
   by_cases c13 : x272002_1.length < 2199023255552
   rotate_left
   ·rw [if_neg c13] at H
    exact absurd H (by simp)
   (rw [if_pos c13] at H); have LMc13 := Aside0.mk c13; clear c13; (obtain ⟨y281, hy281⟩ : ∃ y_ : List (S127), y_ = (x272002_1 ++ [(⟨(⟨t273, t274, t275, t276⟩ : S123), (rd_T93 l0_2 x4_1).f1, (rd_T93 l0_2 x4_1).f2⟩ : S127)]) := ⟨_, rfl⟩); (replace H : (tiklaw16_Plain.l0 k1 (wrap64 (x4_1 + 1)) a0_0 a0_1 l0_2 a0_3 a0_0 a0_1 y281 a0_3) = some (r1, r2, r3, r4) := by first | (rw [hy281]; with_reducible exact H) | (have H2_ := (Option.bind_some _ _).symm.trans H; rw [hy281]; with_reducible exact H2_) | (have H2_ := (Option.bind_some _ _).symm.trans H; with_reducible exact H2_) | with_reducible exact H | (rw [hy281]; exact H) | exact H); have Ny281 := Aside0.mk hy281; clear hy281; have H' := Aside0.mk H; clear H; have hnb14 := NB269_270.out; have hnc14 := NB270_269.out; have hnb15 := NB269_271.out; have hnc15 := NB271_269.out; have hcz16_0 : wr.cell? ⟨gb269, 0, none⟩ = some (.int .i64 a0_0) := (blk_cell BK269.out 0).trans rfl; have hcz16_1 : wr.cell? ⟨gb269, 1, none⟩ = some (.int .u64 a0_1) := (blk_cell BK269.out 1).trans rfl; have hcz16_2 : wr.cell? ⟨gb269, 2, none⟩ = some (.slice A0_2 l0_2.length c0_2) := (blk_cell BK269.out 2).trans rfl; have hcz16_3 : wr.cell? ⟨gb269, 3, none⟩ = some (.int .i64 a0_3) := (blk_cell BK269.out 3).trans rfl; have hfz16_0 := blk_frozen BK269.out 0; have hfz16_1 := blk_frozen BK269.out 1; have hfz16_2 := blk_frozen BK269.out 2; have hfz16_3 := blk_frozen BK269.out 3
   try go_wp2
   have n0_ := Aside0.mk (Kd.V_drew HO_270002.out); have n1_ := Aside0.mk (Kd.N_drew HO_272002.out); have n2_ := Aside0.mk (blk_drew BK269.out); have n3_ := Aside0.mk (blk_drew BK270.out); have n4_ := Aside0.mk (blk_drew BK271.out); have n5_ := Aside0.mk (below_drew1 HB.out); clear HO_270002; clear HO_272002; clear BK269; clear BK270; clear BK271; clear HB; have HO_270002 := n0_; have HO_272002 := n1_; have BK269 := n2_; have BK270 := n3_; have BK271 := n4_; have HB := n5_; clear n0_ n1_ n2_ n3_ n4_ n5_; have p272 : 0 ≤ (x4_1 : Int) := of_decide_eq_true (by first | (with_reducible assumption) | assumption); have q272 : x4_1 < (l0_2.length : Int) := of_decide_eq_true (by first | (with_reducible assumption) | assumption); obtain ⟨ad272, A272_3, c272_3, e272, hx272_0, hx272_1, hx272_2, hx272_3, hx272_4, hx272_5, hl272_3, hi272_3⟩ := at_T93 (Kd.V_reads' HO_270002.out).2.2 x4_1 p272 q272
   cases e272
   (obtain ⟨ce272, hce272, hMe272, hcc272⟩ := Kd.V_get HO_270002.out z93 x4_1 p272 (by first | exact q272 | exact of_decide_eq_true (by first | (with_reducible assumption) | assumption) | (have e_ := (Kd.V_reads' HO_270002.out).1; omega)); obtain ⟨ua272_3, uc272_3, rfl, ul272_3, ge272_3⟩ := k93_openF hMe272; have hv272_3 := hcc272 3 _ rfl; rw [add_field _ _ 3 (by omega)] at hv272_3); replace hv272_3 := Option.some.inj (hv272_3.symm.trans hx272_3)
   injection hv272_3 with hva_ hvn_ hvc_
   (rw [hva_] at ge272_3; rw [hvc_] at ul272_3; have HL272_3 := Aside0.mk (show Kd.V (Kd.int .u8) 5 _ w.heap.size _ _ ((rd_T93 l0_2 x4_1).f0.f3) from Kd.V_mk ul272_3 ge272_3); clear hva_ hvn_ hvc_ ge272_3 ul272_3; clear hcc272 hce272; have HR272_3 := Aside0.mk hi272_3; have HC272_3 := Aside0.mk hl272_3; clear hi272_3 hl272_3); replace p272 := eq_true p272; replace q272 := eq_true q272; have p279 : 0 ≤ (x4_1 : Int) := of_decide_eq_true (by first | (with_reducible assumption) | assumption); have q279 : x4_1 < (l0_2.length : Int) := of_decide_eq_true (by first | (with_reducible assumption) | assumption); obtain ⟨ad279, A279_3, c279_3, e279, hx279_0, hx279_1, hx279_2, hx279_3, hx279_4, hx279_5, hl279_3, hi279_3⟩ := at_T93 (Kd.V_reads' HO_270002.out).2.2 x4_1 p279 q279; obtain rfl : ad272 = ad279 := (by injection e279); (obtain ⟨ce279, hce279, hMe279, hcc279⟩ := Kd.V_get HO_270002.out z93 x4_1 p279 (by first | exact q279 | exact of_decide_eq_true (by first | (with_reducible assumption) | assumption) | (have e_ := (Kd.V_reads' HO_270002.out).1; omega)); obtain ⟨ua279_3, uc279_3, rfl, ul279_3, ge279_3⟩ := k93_openF hMe279; have hv279_3 := hcc279 3 _ rfl; rw [add_field _ _ 3 (by omega)] at hv279_3); replace hv279_3 := Option.some.inj (hv279_3.symm.trans hx279_3)
   injection hv279_3 with hva_ hvn_ hvc_
   (rw [hva_] at ge279_3; rw [hvc_] at ul279_3; have HL279_3 := Aside0.mk (show Kd.V (Kd.int .u8) 5 _ w.heap.size _ _ ((rd_T93 l0_2 x4_1).f0.f3) from Kd.V_mk ul279_3 ge279_3); clear hva_ hvn_ hvc_ ge279_3 ul279_3; clear hcc279 hce279; have HR279_3 := Aside0.mk hi279_3; have HC279_3 := Aside0.mk hl279_3; clear hi279_3 hl279_3); replace p279 := eq_true p279; replace q279 := eq_true q279; have ea_ := Option.some.inj (hx272_3.symm.trans hx279_3)
   injection ea_ with ea_ en_ ec_
   subst ea_; subst ec_; clear en_; have p280 : 0 ≤ (x4_1 : Int) := of_decide_eq_true (by first | (with_reducible assumption) | assumption); have q280 : x4_1 < (l0_2.length : Int) := of_decide_eq_true (by first | (with_reducible assumption) | assumption); obtain ⟨ad280, A280_3, c280_3, e280, hx280_0, hx280_1, hx280_2, hx280_3, hx280_4, hx280_5, hl280_3, hi280_3⟩ := at_T93 (Kd.V_reads' HO_270002.out).2.2 x4_1 p280 q280; obtain rfl : ad272 = ad280 := (by injection e280); (obtain ⟨ce280, hce280, hMe280, hcc280⟩ := Kd.V_get HO_270002.out z93 x4_1 p280 (by first | exact q280 | exact of_decide_eq_true (by first | (with_reducible assumption) | assumption) | (have e_ := (Kd.V_reads' HO_270002.out).1; omega)); obtain ⟨ua280_3, uc280_3, rfl, ul280_3, ge280_3⟩ := k93_openF hMe280; have hv280_3 := hcc280 3 _ rfl; rw [add_field _ _ 3 (by omega)] at hv280_3); replace hv280_3 := Option.some.inj (hv280_3.symm.trans hx280_3)
   injection hv280_3 with hva_ hvn_ hvc_
   (rw [hva_] at ge280_3; rw [hvc_] at ul280_3; have HL280_3 := Aside0.mk (show Kd.V (Kd.int .u8) 5 _ w.heap.size _ _ ((rd_T93 l0_2 x4_1).f0.f3) from Kd.V_mk ul280_3 ge280_3); clear hva_ hvn_ hvc_ ge280_3 ul280_3; clear hcc280 hce280; have HR280_3 := Aside0.mk hi280_3; have HC280_3 := Aside0.mk hl280_3; clear hi280_3 hl280_3); replace p280 := eq_true p280; replace q280 := eq_true q280; have ea_ := Option.some.inj (hx272_3.symm.trans hx280_3)
   injection ea_ with ea_ en_ ec_
   subst ea_; subst ec_; clear en_; refine start_ (n := 26) (S := fun w' => w'.cell? ⟨gb271, 0, none⟩ = some (.int .i64 a0_0) ∧ w'.cell? ⟨gb271, 1, none⟩ = some (.int .u64 a0_1) ∧ w'.cell? ⟨gb271, 2, none⟩ = some (u272002) ∧ w'.cell? ⟨gb271, 3, none⟩ = some (.int .i64 a0_3) ∧ w'.cell? ⟨gb269, 0, none⟩ = some (.int .i64 a0_0) ∧ w'.cell? ⟨gb269, 1, none⟩ = some (.int .u64 a0_1) ∧ w'.cell? ⟨gb269, 2, none⟩ = some (.slice (some ad272) l0_2.length c0_2) ∧ w'.cell? ⟨gb269, 3, none⟩ = some (.int .i64 a0_3) ∧ w'.cell? (ad272.add ((x4_1).toNat * 6)) = some (.int .i64 ((rd_T93 l0_2 x4_1).f0.f0)) ∧ w'.cell? ⟨(ad272.add ((x4_1).toNat * 6)).block, (ad272.add ((x4_1).toNat * 6)).off + 1, none⟩ = some (.int .u64 ((rd_T93 l0_2 x4_1).f0.f1)) ∧ w'.cell? ⟨(ad272.add ((x4_1).toNat * 6)).block, (ad272.add ((x4_1).toNat * 6)).off + 2, none⟩ = some (.int .u64 ((rd_T93 l0_2 x4_1).f0.f2)) ∧ w'.cell? ⟨(ad272.add ((x4_1).toNat * 6)).block, (ad272.add ((x4_1).toNat * 6)).off + 3, none⟩ = some (.slice A272_3 ((rd_T93 l0_2 x4_1).f0.f3).length c272_3) ∧ w'.cell? ⟨(ad272.add ((x4_1).toNat * 6)).block, (ad272.add ((x4_1).toNat * 6)).off + 4, none⟩ = some (.int .i64 ((rd_T93 l0_2 x4_1).f1)) ∧ w'.cell? ⟨(ad272.add ((x4_1).toNat * 6)).block, (ad272.add ((x4_1).toNat * 6)).off + 5, none⟩ = some (.int .i64 ((rd_T93 l0_2 x4_1).f2)) ∧ w'.cell? (ad272.add ((x4_1).toNat * 6)) = some (.int .i64 ((rd_T93 l0_2 x4_1).f0.f0)) ∧ w'.cell? ⟨(ad272.add ((x4_1).toNat * 6)).block, (ad272.add ((x4_1).toNat * 6)).off + 1, none⟩ = some (.int .u64 ((rd_T93 l0_2 x4_1).f0.f1)) ∧ w'.cell? ⟨(ad272.add ((x4_1).toNat * 6)).block, (ad272.add ((x4_1).toNat * 6)).off + 2, none⟩ = some (.int .u64 ((rd_T93 l0_2 x4_1).f0.f2)) ∧ w'.cell? ⟨(ad272.add ((x4_1).toNat * 6)).block, (ad272.add ((x4_1).toNat * 6)).off + 3, none⟩ = some (.slice A272_3 ((rd_T93 l0_2 x4_1).f0.f3).length c272_3) ∧ w'.cell? ⟨(ad272.add ((x4_1).toNat * 6)).block, (ad272.add ((x4_1).toNat * 6)).off + 4, none⟩ = some (.int .i64 ((rd_T93 l0_2 x4_1).f1)) ∧ w'.cell? ⟨(ad272.add ((x4_1).toNat * 6)).block, (ad272.add ((x4_1).toNat * 6)).off + 5, none⟩ = some (.int .i64 ((rd_T93 l0_2 x4_1).f2)) ∧ w'.cell? (ad272.add ((x4_1).toNat * 6)) = some (.int .i64 ((rd_T93 l0_2 x4_1).f0.f0)) ∧ w'.cell? ⟨(ad272.add ((x4_1).toNat * 6)).block, (ad272.add ((x4_1).toNat * 6)).off + 1, none⟩ = some (.int .u64 ((rd_T93 l0_2 x4_1).f0.f1)) ∧ w'.cell? ⟨(ad272.add ((x4_1).toNat * 6)).block, (ad272.add ((x4_1).toNat * 6)).off + 2, none⟩ = some (.int .u64 ((rd_T93 l0_2 x4_1).f0.f2)) ∧ w'.cell? ⟨(ad272.add ((x4_1).toNat * 6)).block, (ad272.add ((x4_1).toNat * 6)).off + 3, none⟩ = some (.slice A272_3 ((rd_T93 l0_2 x4_1).f0.f3).length c272_3) ∧ w'.cell? ⟨(ad272.add ((x4_1).toNat * 6)).block, (ad272.add ((x4_1).toNat * 6)).off + 4, none⟩ = some (.int .i64 ((rd_T93 l0_2 x4_1).f1)) ∧ w'.cell? ⟨(ad272.add ((x4_1).toNat * 6)).block, (ad272.add ((x4_1).toNat * 6)).off + 5, none⟩ = some (.int .i64 ((rd_T93 l0_2 x4_1).f2))) (ds := [23, 25]) #[false, false, false, false, false, false, false, false, false, false, false, false, false, false, false, false, false, false, false, false, false, false, false, false, false, false] (by kernel_rfl) rfl rfl ⟨(blk_cell BK271.out 0).trans rfl, (blk_cell BK271.out 1).trans rfl, (blk_cell BK271.out 2).trans rfl, (blk_cell BK271.out 3).trans rfl, (blk_cell BK269.out 0).trans rfl, (blk_cell BK269.out 1).trans rfl, (blk_cell BK269.out 2).trans rfl, (blk_cell BK269.out 3).trans rfl, hx272_0, hx272_1, hx272_2, hx272_3, hx272_4, hx272_5, hx279_0, hx279_1, hx279_2, hx279_3, hx279_4, hx279_5, hx280_0, hx280_1, hx280_2, hx280_3, hx280_4, hx280_5⟩ (fun hHeld => ?_); refine with_tabW tiklaw16_Plain.tab5 tiklaw16_Plain.bits5 (fun HT_ HW_ => ?_); (generalize wr.drew = w17 at HO_270002 HO_272002 BK269 BK270 BK271 HB HL272_3 HL279_3 HL280_3 HR272_3 HR279_3 HR280_3 hx272_0 hx272_1 hx272_2 hx272_3 hx272_4 hx272_5 hx279_0 hx279_1 hx279_2 hx279_3 hx279_4 hx279_5 hx280_0 hx280_1 hx280_2 hx280_3 hx280_4 hx280_5 hHeld ⊢); refine pure_ (i := 0) (N := some 21) (v := ?_) (a' := ?_) #[true, false, false, false, false, false, false, false, false, false, false, false, false, false, false, false, false, false, false, false, false, false, false, false, false, false] rfl rfl (any_of HT_.out (by kernel_rfl)) (fun _ _ _ h => h) (Or.inl ⟨by rfl, ?_⟩) ?_ ?_
   rotate_left
   ·intro w'
    go_simp
    with_reducible rfl
   rotate_left
   ·simp only [Act.put, List.setIfInBounds_toArray, List.set_cons_zero, List.set_cons_succ, i64_w, i32_w]
    rfl
   refine pure_ (i := 2) (N := some 23) (v := ?_) (a' := ?_) #[true, false, true, false, false, false, false, false, false, false, false, false, false, false, false, false, false, false, false, false, false, false, false, false, false, false] rfl rfl (any_of HT_.out (by kernel_rfl)) (fun _ _ _ h => h) (Or.inl ⟨by rfl, ?_⟩) ?_ ?_
   rotate_left
   ·intro w'
    go_simp
    with_reducible rfl
   rotate_left
   ·simp only [Act.put, List.setIfInBounds_toArray, List.set_cons_zero, List.set_cons_succ, i64_w, i32_w]
    rfl
   refine pure_ (i := 4) (N := some 25) (v := ?_) (a' := ?_) #[true, false, true, false, true, false, false, false, false, false, false, false, false, false, false, false, false, false, false, false, false, false, false, false, false, false] rfl rfl (any_of HT_.out (by kernel_rfl)) (fun _ _ _ h => h) (Or.inl ⟨by rfl, ?_⟩) ?_ ?_
   rotate_left
   ·intro w'
    go_simp
    with_reducible rfl
   rotate_left
   ·simp only [Act.put, List.setIfInBounds_toArray, List.set_cons_zero, List.set_cons_succ, i64_w, i32_w]
    rfl
   refine pure_ (i := 9) (N := some 30) (v := ?_) (a' := ?_) #[true, false, true, false, true, false, false, false, false, true, false, false, false, false, false, false, false, false, false, false, false, false, false, false, false, false] rfl rfl (any_of HT_.out (by kernel_rfl)) (fun _ _ _ h => h) (Or.inl ⟨by rfl, ?_⟩) ?_ ?_
   rotate_left
   ·intro w'
    go_simp
    with_reducible rfl
   rotate_left
   ·simp only [Act.put, List.setIfInBounds_toArray, List.set_cons_zero, List.set_cons_succ, i64_w, i32_w]
    rfl
   refine pure_ (i := 11) (N := some 32) (v := ?_) (a' := ?_) #[true, false, true, false, true, false, false, false, false, true, false, true, false, false, false, false, false, false, false, false, false, false, false, false, false, false] rfl rfl (any_of HT_.out (by kernel_rfl)) (fun _ _ _ h => h) (Or.inl ⟨by rfl, ?_⟩) ?_ ?_
   rotate_left
   ·intro w'
    go_simp
    with_reducible rfl
   rotate_left
   ·simp only [Act.put, List.setIfInBounds_toArray, List.set_cons_zero, List.set_cons_succ, i64_w, i32_w]
    rfl
   refine pure_ (i := 15) (N := some 36) (v := ?_) (a' := ?_) #[true, false, true, false, true, false, false, false, false, true, false, true, false, false, false, true, false, false, false, false, false, false, false, false, false, false] rfl rfl (any_of HT_.out (by kernel_rfl)) (fun _ _ _ h => h) (Or.inl ⟨by rfl, ?_⟩) ?_ ?_
   rotate_left
   ·intro w'
    go_simp
    with_reducible rfl
   rotate_left
   ·simp only [Act.put, List.setIfInBounds_toArray, List.set_cons_zero, List.set_cons_succ, i64_w, i32_w]
    rfl
   refine pure_ (i := 17) (N := some 38) (v := ?_) (a' := ?_) #[true, false, true, false, true, false, false, false, false, true, false, true, false, false, false, true, false, true, false, false, false, false, false, false, false, false] rfl rfl (any_of HT_.out (by kernel_rfl)) (fun _ _ _ h => h) (Or.inl ⟨by rfl, ?_⟩) ?_ ?_
   rotate_left
   ·intro w'
    go_simp
    with_reducible rfl
   rotate_left
   ·simp only [Act.put, List.setIfInBounds_toArray, List.set_cons_zero, List.set_cons_succ, i64_w, i32_w]
    rfl
   refine take_ (i := 1) (N := some 22) (v := ?_) (a' := ?_) #[true, true, true, false, true, false, false, false, false, true, false, true, false, false, false, true, false, true, false, false, false, false, false, false, false, false] rfl rfl (take_ofW HT_.out HW_.out (by kernel_rfl)) (fun _ _ _ h => h) (Or.inl ⟨by rfl, ?_⟩) hHeld ?_ ?_
   rotate_left
   ·rintro w' ⟨s0, s1, s2, s3, s4, s5, s6, s7, s8, s9, s10, s11, s12, s13, s14, s15, s16, s17, s18, s19, s20, s21, s22, s23, s24, s25⟩
    go_simp
    with_reducible rfl
   rotate_left
   ·simp only [Act.put, List.setIfInBounds_toArray, List.set_cons_zero, List.set_cons_succ, i64_w, i32_w]
    rfl
   refine take_ (i := 3) (N := some 24) (v := ?_) (a' := ?_) #[true, true, true, true, true, false, false, false, false, true, false, true, false, false, false, true, false, true, false, false, false, false, false, false, false, false] rfl rfl (take_ofW HT_.out HW_.out (by kernel_rfl)) (fun _ _ _ h => h) (Or.inl ⟨by rfl, ?_⟩) hHeld ?_ ?_
   rotate_left
   ·rintro w' ⟨s0, s1, s2, s3, s4, s5, s6, s7, s8, s9, s10, s11, s12, s13, s14, s15, s16, s17, s18, s19, s20, s21, s22, s23, s24, s25⟩
    go_simp
    with_reducible rfl
   rotate_left
   ·simp only [Act.put, List.setIfInBounds_toArray, List.set_cons_zero, List.set_cons_succ, i64_w, i32_w]
    rfl
   refine pure_ (i := 5) (N := some 26) (v := ?_) (a' := ?_) #[true, true, true, true, true, true, false, false, false, true, false, true, false, false, false, true, false, true, false, false, false, false, false, false, false, false] rfl rfl (any_of HT_.out (by kernel_rfl)) (fun _ _ _ h => h) (Or.inl ⟨by rfl, ?_⟩) ?_ ?_
   rotate_left
   ·intro w'
    go_simp
    with_reducible rfl
   rotate_left
   ·simp only [Act.put, List.setIfInBounds_toArray, List.set_cons_zero, List.set_cons_succ, i64_w, i32_w]
    rfl
   refine pure_ (i := 6) (N := some 27) (v := ?_) (a' := ?_) #[true, true, true, true, true, true, true, false, false, true, false, true, false, false, false, true, false, true, false, false, false, false, false, false, false, false] rfl rfl (any_of HT_.out (by kernel_rfl)) (fun _ _ _ h => h) (Or.inl ⟨by rfl, ?_⟩) ?_ ?_
   rotate_left
   ·intro w'
    go_simp
    with_reducible rfl
   rotate_left
   ·simp only [Act.put, List.setIfInBounds_toArray, List.set_cons_zero, List.set_cons_succ, i64_w, i32_w]
    rfl
   refine take_ (i := 7) (N := some 28) (v := ?_) (a' := ?_) #[true, true, true, true, true, true, true, true, false, true, false, true, false, false, false, true, false, true, false, false, false, false, false, false, false, false] rfl rfl (take_ofW HT_.out HW_.out (by kernel_rfl)) (fun _ _ _ h => h) (Or.inl ⟨by rfl, ?_⟩) hHeld ?_ ?_
   rotate_left
   ·rintro w' ⟨s0, s1, s2, s3, s4, s5, s6, s7, s8, s9, s10, s11, s12, s13, s14, s15, s16, s17, s18, s19, s20, s21, s22, s23, s24, s25⟩
    go_simp
    with_reducible rfl
   rotate_left
   ·simp only [Act.put, List.setIfInBounds_toArray, List.set_cons_zero, List.set_cons_succ, i64_w, i32_w]
    rfl
   refine take_ (i := 10) (N := some 31) (v := ?_) (a' := ?_) #[true, true, true, true, true, true, true, true, false, true, true, true, false, false, false, true, false, true, false, false, false, false, false, false, false, false] rfl rfl (take_ofW HT_.out HW_.out (by kernel_rfl)) (fun _ _ _ h => h) (Or.inl ⟨by rfl, ?_⟩) hHeld ?_ ?_
   rotate_left
   ·rintro w' ⟨s0, s1, s2, s3, s4, s5, s6, s7, s8, s9, s10, s11, s12, s13, s14, s15, s16, s17, s18, s19, s20, s21, s22, s23, s24, s25⟩
    go_simp
    with_reducible rfl
   rotate_left
   ·simp only [Act.put, List.setIfInBounds_toArray, List.set_cons_zero, List.set_cons_succ, i64_w, i32_w]
    rfl
   refine pure_ (i := 12) (N := some 33) (v := ?_) (a' := ?_) #[true, true, true, true, true, true, true, true, false, true, true, true, true, false, false, true, false, true, false, false, false, false, false, false, false, false] rfl rfl (any_of HT_.out (by kernel_rfl)) (fun _ _ _ h => h) (Or.inl ⟨by rfl, ?_⟩) ?_ ?_
   rotate_left
   ·intro w'
    go_simp
    with_reducible rfl
   rotate_left
   ·simp only [Act.put, List.setIfInBounds_toArray, List.set_cons_zero, List.set_cons_succ, i64_w, i32_w]
    rfl
   refine pure_ (i := 13) (N := some 34) (v := ?_) (a' := ?_) #[true, true, true, true, true, true, true, true, false, true, true, true, true, true, false, true, false, true, false, false, false, false, false, false, false, false] rfl rfl (any_of HT_.out (by kernel_rfl)) (fun _ _ _ h => h) (Or.inl ⟨by rfl, ?_⟩) ?_ ?_
   rotate_left
   ·intro w'
    go_simp
    with_reducible rfl
   rotate_left
   ·simp only [Act.put, List.setIfInBounds_toArray, List.set_cons_zero, List.set_cons_succ, i64_w, i32_w]
    rfl
   refine take_ (i := 14) (N := some 35) (v := ?_) (a' := ?_) #[true, true, true, true, true, true, true, true, false, true, true, true, true, true, true, true, false, true, false, false, false, false, false, false, false, false] rfl rfl (take_ofW HT_.out HW_.out (by kernel_rfl)) (fun _ _ _ h => h) (Or.inl ⟨by rfl, ?_⟩) hHeld ?_ ?_
   rotate_left
   ·rintro w' ⟨s0, s1, s2, s3, s4, s5, s6, s7, s8, s9, s10, s11, s12, s13, s14, s15, s16, s17, s18, s19, s20, s21, s22, s23, s24, s25⟩
    go_simp
    with_reducible rfl
   rotate_left
   ·simp only [Act.put, List.setIfInBounds_toArray, List.set_cons_zero, List.set_cons_succ, i64_w, i32_w]
    rfl
   refine take_ (i := 16) (N := some 37) (v := ?_) (a' := ?_) #[true, true, true, true, true, true, true, true, false, true, true, true, true, true, true, true, true, true, false, false, false, false, false, false, false, false] rfl rfl (take_ofW HT_.out HW_.out (by kernel_rfl)) (fun _ _ _ h => h) (Or.inl ⟨by rfl, ?_⟩) hHeld ?_ ?_
   rotate_left
   ·rintro w' ⟨s0, s1, s2, s3, s4, s5, s6, s7, s8, s9, s10, s11, s12, s13, s14, s15, s16, s17, s18, s19, s20, s21, s22, s23, s24, s25⟩
    go_simp
    with_reducible rfl
   rotate_left
   ·simp only [Act.put, List.setIfInBounds_toArray, List.set_cons_zero, List.set_cons_succ, i64_w, i32_w]
    rfl
   refine pure_ (i := 18) (N := some 39) (v := ?_) (a' := ?_) #[true, true, true, true, true, true, true, true, false, true, true, true, true, true, true, true, true, true, true, false, false, false, false, false, false, false] rfl rfl (any_of HT_.out (by kernel_rfl)) (fun _ _ _ h => h) (Or.inl ⟨by rfl, ?_⟩) ?_ ?_
   rotate_left
   ·intro w'
    go_simp
    with_reducible rfl
   rotate_left
   ·simp only [Act.put, List.setIfInBounds_toArray, List.set_cons_zero, List.set_cons_succ, i64_w, i32_w]
    rfl
   refine pure_ (i := 19) (N := some 40) (v := ?_) (a' := ?_) #[true, true, true, true, true, true, true, true, false, true, true, true, true, true, true, true, true, true, true, true, false, false, false, false, false, false] rfl rfl (any_of HT_.out (by kernel_rfl)) (fun _ _ _ h => h) (Or.inl ⟨by rfl, ?_⟩) ?_ ?_
   rotate_left
   ·intro w'
    go_simp
    with_reducible rfl
   rotate_left
   ·simp only [Act.put, List.setIfInBounds_toArray, List.set_cons_zero, List.set_cons_succ, i64_w, i32_w]
    rfl
   refine take_ (i := 20) (N := some 41) (v := ?_) (a' := ?_) #[true, true, true, true, true, true, true, true, false, true, true, true, true, true, true, true, true, true, true, true, true, false, false, false, false, false] rfl rfl (take_ofW HT_.out HW_.out (by kernel_rfl)) (fun _ _ _ h => h) (Or.inl ⟨by rfl, ?_⟩) hHeld ?_ ?_
   rotate_left
   ·rintro w' ⟨s0, s1, s2, s3, s4, s5, s6, s7, s8, s9, s10, s11, s12, s13, s14, s15, s16, s17, s18, s19, s20, s21, s22, s23, s24, s25⟩
    go_simp
    with_reducible rfl
   rotate_left
   ·simp only [Act.put, List.setIfInBounds_toArray, List.set_cons_zero, List.set_cons_succ, i64_w, i32_w]
    rfl
   refine one_ (i := 8) (N := some 29) #[true, true, true, true, true, true, true, true, true, true, true, true, true, true, true, true, true, true, true, true, true, false, false, false, false, false] rfl rfl (one_of HT_.out (by kernel_rfl)) (by decide) (fun K hK => ?_); refine goes_ Tryd.func77 (by kernel_rfl) rfl #[.agg #[.int .i64 ((rd_T93 l0_2 x4_1).f0.f0), .int .u64 ((rd_T93 l0_2 x4_1).f0.f1), .int .u64 ((rd_T93 l0_2 x4_1).f0.f2), .slice A272_3 ((rd_T93 l0_2 x4_1).f0.f3).length c272_3]] (by rfl) rfl rfl (by (try simp only [List.map_toArray, List.map_cons, List.map_nil]); first | done | rfl | (simp only [List.length_drop, List.length_take]; rfl)) ?_
   with_reducible refine (tiklaw15_Plain.calls ((rd_T93 l0_2 x4_1).f0.f0) ((rd_T93 l0_2 x4_1).f0.f1) ((rd_T93 l0_2 x4_1).f0.f2) (fun k_ => ((P0_2_ k_ ∨ w.heap.size ≤ k_) ∧ (some k_ ≠ (u272002 : Value).ownBlock ∧ (k_ ≠ gb269 ∧ (k_ ≠ gb270 ∧ k_ ≠ gb271))))) _ _ ((rd_T93 l0_2 x4_1).f0.f3) t273 t274 t275 t276 _ ?side1 A12.out).mono ?_
   (case side1 => exact HL272_3.out); rintro e w18 ⟨v277, rfl, ho0, hb⟩; have HS8_ := (hb.cell (World.block_lt_of_cell? _ _ (hHeld.2.2.2.2.2.2.2.2.1))).trans (hHeld.2.2.2.2.2.2.2.2.1); have HS9_ := (hb.cell (World.block_lt_of_cell? _ _ (hHeld.2.2.2.2.2.2.2.2.2.1))).trans (hHeld.2.2.2.2.2.2.2.2.2.1); have HS10_ := (hb.cell (World.block_lt_of_cell? _ _ (hHeld.2.2.2.2.2.2.2.2.2.2.1))).trans (hHeld.2.2.2.2.2.2.2.2.2.2.1); have HS11_ := (hb.cell (World.block_lt_of_cell? _ _ (hHeld.2.2.2.2.2.2.2.2.2.2.2.1))).trans (hHeld.2.2.2.2.2.2.2.2.2.2.2.1); have HS12_ := (hb.cell (World.block_lt_of_cell? _ _ (hHeld.2.2.2.2.2.2.2.2.2.2.2.2.1))).trans (hHeld.2.2.2.2.2.2.2.2.2.2.2.2.1); have HS13_ := (hb.cell (World.block_lt_of_cell? _ _ (hHeld.2.2.2.2.2.2.2.2.2.2.2.2.2.1))).trans (hHeld.2.2.2.2.2.2.2.2.2.2.2.2.2.1); have HS14_ := (hb.cell (World.block_lt_of_cell? _ _ (hHeld.2.2.2.2.2.2.2.2.2.2.2.2.2.2.1))).trans (hHeld.2.2.2.2.2.2.2.2.2.2.2.2.2.2.1); have HS15_ := (hb.cell (World.block_lt_of_cell? _ _ (hHeld.2.2.2.2.2.2.2.2.2.2.2.2.2.2.2.1))).trans (hHeld.2.2.2.2.2.2.2.2.2.2.2.2.2.2.2.1); have HS16_ := (hb.cell (World.block_lt_of_cell? _ _ (hHeld.2.2.2.2.2.2.2.2.2.2.2.2.2.2.2.2.1))).trans (hHeld.2.2.2.2.2.2.2.2.2.2.2.2.2.2.2.2.1); have HS17_ := (hb.cell (World.block_lt_of_cell? _ _ (hHeld.2.2.2.2.2.2.2.2.2.2.2.2.2.2.2.2.2.1))).trans (hHeld.2.2.2.2.2.2.2.2.2.2.2.2.2.2.2.2.2.1); have HS18_ := (hb.cell (World.block_lt_of_cell? _ _ (hHeld.2.2.2.2.2.2.2.2.2.2.2.2.2.2.2.2.2.2.1))).trans (hHeld.2.2.2.2.2.2.2.2.2.2.2.2.2.2.2.2.2.2.1); have HS19_ := (hb.cell (World.block_lt_of_cell? _ _ (hHeld.2.2.2.2.2.2.2.2.2.2.2.2.2.2.2.2.2.2.2.1))).trans (hHeld.2.2.2.2.2.2.2.2.2.2.2.2.2.2.2.2.2.2.2.1); have HS20_ := (hb.cell (World.block_lt_of_cell? _ _ (hHeld.2.2.2.2.2.2.2.2.2.2.2.2.2.2.2.2.2.2.2.2.1))).trans (hHeld.2.2.2.2.2.2.2.2.2.2.2.2.2.2.2.2.2.2.2.2.1); have HS21_ := (hb.cell (World.block_lt_of_cell? _ _ (hHeld.2.2.2.2.2.2.2.2.2.2.2.2.2.2.2.2.2.2.2.2.2.1))).trans (hHeld.2.2.2.2.2.2.2.2.2.2.2.2.2.2.2.2.2.2.2.2.2.1); have HS22_ := (hb.cell (World.block_lt_of_cell? _ _ (hHeld.2.2.2.2.2.2.2.2.2.2.2.2.2.2.2.2.2.2.2.2.2.2.1))).trans (hHeld.2.2.2.2.2.2.2.2.2.2.2.2.2.2.2.2.2.2.2.2.2.2.1); have HS23_ := (hb.cell (World.block_lt_of_cell? _ _ (hHeld.2.2.2.2.2.2.2.2.2.2.2.2.2.2.2.2.2.2.2.2.2.2.2.1))).trans (hHeld.2.2.2.2.2.2.2.2.2.2.2.2.2.2.2.2.2.2.2.2.2.2.2.1); have HS24_ := (hb.cell (World.block_lt_of_cell? _ _ (hHeld.2.2.2.2.2.2.2.2.2.2.2.2.2.2.2.2.2.2.2.2.2.2.2.2.1))).trans (hHeld.2.2.2.2.2.2.2.2.2.2.2.2.2.2.2.2.2.2.2.2.2.2.2.2.1); have HS25_ := (hb.cell (World.block_lt_of_cell? _ _ (hHeld.2.2.2.2.2.2.2.2.2.2.2.2.2.2.2.2.2.2.2.2.2.2.2.2.2))).trans (hHeld.2.2.2.2.2.2.2.2.2.2.2.2.2.2.2.2.2.2.2.2.2.2.2.2.2); refine ⟨_, rfl, ?_⟩; have n0_ := Aside0.mk (Kd.V_below (by (with_reducible repeat first | apply vA_ | apply vN_ | apply vD_); exact HO_270002.out) hb); have n1_ := Aside0.mk (Kd.N_below (nx_ HO_272002) hb); have n2_ := Aside0.mk (Kd.V_below (by (with_reducible repeat first | apply vA_ | apply vN_ | apply vD_); exact HL272_3.out) hb); have n3_ := Aside0.mk (Kd.V_below (by (with_reducible repeat first | apply vA_ | apply vN_ | apply vD_); exact HL279_3.out) hb); have n4_ := Aside0.mk (Kd.V_below (by (with_reducible repeat first | apply vA_ | apply vN_ | apply vD_); exact HL280_3.out) hb); have n5_ := Aside0.mk (Kd.V_lower (Kd.V_mono (ok' := fun k_ => (P0_2_ k_ ∨ w.heap.size ≤ k_) ∧ some k_ ≠ (u272002 : Value).ownBlock ∧ k_ ≠ gb269 ∧ k_ ≠ gb270 ∧ k_ ≠ gb271) ho0 (fun k_ hk_ => ⟨Or.elim hk_ (fun hs_ => hs_.1) (fun hn_ => (.inr (Nat.le_trans (below_size (by repeat (first | (with_reducible first | exact HB.out | apply yA | apply yN | apply yD | refine yS ?_ GE269.out | refine yS ?_ GE270.out | refine yS ?_ GE271.out) | exact HB.out))) hn_))), Or.elim hk_ (fun hs_ => hs_.2.1) (fun hn_ => (Kd.fresh' (Kd.N_lt (nx_ HO_272002)) k_ hn_)), Or.elim hk_ (fun hs_ => hs_.2.2.1) (fun hn_ => (Kd.freshB (g := gb269) (o := .cells #[.int .i64 a0_0, .int .u64 a0_1, .slice (some ad272) l0_2.length c0_2, .int .i64 a0_3] 72 (0, 0)) (bx_ BK269) k_ hn_)), Or.elim hk_ (fun hs_ => hs_.2.2.2.1) (fun hn_ => (Kd.freshB (g := gb270) (o := .cells #[.int .i64 0, .int .u64 0, .slice none 0 0, .int .i64 0] 77 (0, 0)) (bx_ BK270) k_ hn_)), Or.elim hk_ (fun hs_ => hs_.2.2.2.2) (fun hn_ => (Kd.freshB (g := gb271) (o := .cells #[.int .i64 a0_0, .int .u64 a0_1, u272002, .int .i64 a0_3] 77 (0, 0)) (bx_ BK271) k_ hn_))⟩)) (below_size (by repeat (first | (with_reducible first | exact HB.out | apply yA | apply yN | apply yD | refine yS ?_ GE269.out | refine yS ?_ GE270.out | refine yS ?_ GE271.out) | exact HB.out)))); have n6_ := Aside0.mk (blk_below (g := gb269) (o := .cells #[.int .i64 a0_0, .int .u64 a0_1, .slice (some ad272) l0_2.length c0_2, .int .i64 a0_3] 72 (0, 0)) (bx_ BK269) hb); have n7_ := Aside0.mk (blk_below (g := gb270) (o := .cells #[.int .i64 0, .int .u64 0, .slice none 0 0, .int .i64 0] 77 (0, 0)) (bx_ BK270) hb); have n8_ := Aside0.mk (blk_below (g := gb271) (o := .cells #[.int .i64 a0_0, .int .u64 a0_1, u272002, .int .i64 a0_3] 77 (0, 0)) (bx_ BK271) hb); have n9_ := Aside0.mk (Kd.C_below (by repeat (first | (with_reducible exact HR272_3.out) | (with_reducible refine Kd.C_alloc ?_ _) | (with_reducible refine Kd.C_drewN ?_ _) | (with_reducible refine Kd.C_drew ?_) | exact HR272_3.out)) hb); have n10_ := Aside0.mk (Kd.C_below (by repeat (first | (with_reducible exact HR279_3.out) | (with_reducible refine Kd.C_alloc ?_ _) | (with_reducible refine Kd.C_drewN ?_ _) | (with_reducible refine Kd.C_drew ?_) | exact HR279_3.out)) hb); have n11_ := Aside0.mk (Kd.C_below (by repeat (first | (with_reducible exact HR280_3.out) | (with_reducible refine Kd.C_alloc ?_ _) | (with_reducible refine Kd.C_drewN ?_ _) | (with_reducible refine Kd.C_drew ?_) | exact HR280_3.out)) hb); have n12_ := Aside0.mk (below_step (by repeat (first | (with_reducible first | exact HB.out | apply yA | apply yN | apply yD | refine yS ?_ GE269.out | refine yS ?_ GE270.out | refine yS ?_ GE271.out) | exact HB.out)) hb); clear HO_270002; clear HO_272002; clear HL272_3; clear HL279_3; clear HL280_3; clear BK269; clear BK270; clear BK271; clear HR272_3; clear HR279_3; clear HR280_3; clear HB; have HO_270002 := n0_; have HO_272002 := n1_; have HL272_3 := n2_; have HL279_3 := n3_; have HL280_3 := n4_; have HO278 := n5_; have BK269 := n6_; have BK270 := n7_; have BK271 := n8_; have HR272_3 := n9_; have HR279_3 := n10_; have HR280_3 := n11_; have HB := n12_; clear n0_ n1_ n2_ n3_ n4_ n5_ n6_ n7_ n8_ n9_ n10_ n11_ n12_; (try clear hb); (try clear hb2); (try clear hk); (try clear hi); (try clear ho0); obtain ⟨Ao19, co19, eo19⟩ := Kd.V_slice HO278.out; (first | subst eo19 | (injection eo19 with f1_ f2_ f3_; have f4_ := f1_.symm; have f5_ := f3_.symm; clear f1_ f2_ f3_; subst f4_; subst f5_)); refine hK.out _ _ ⟨(blk_cell BK271.out 0).trans rfl, (blk_cell BK271.out 1).trans rfl, (blk_cell BK271.out 2).trans rfl, (blk_cell BK271.out 3).trans rfl, (blk_cell BK269.out 0).trans rfl, (blk_cell BK269.out 1).trans rfl, (blk_cell BK269.out 2).trans rfl, (blk_cell BK269.out 3).trans rfl, HS8_, HS9_, HS10_, HS11_, HS12_, HS13_, HS14_, HS15_, HS16_, HS17_, HS18_, HS19_, HS20_, HS21_, HS22_, HS23_, HS24_, HS25_⟩ (fun hHeld => ?_); clear hK K; refine norm_ (a' := ?_) ?_ ?_
   rotate_left
   ·show Act.put _ (some 29) _ = _
    simp only [Act.put, List.setIfInBounds_toArray, List.set_cons_zero, List.set_cons_succ, i64_w, i32_w]
    rfl
   refine pure_ (i := 21) (N := some 42) (v := ?_) (a' := ?_) #[true, true, true, true, true, true, true, true, true, true, true, true, true, true, true, true, true, true, true, true, true, true, false, false, false, false] rfl rfl (any_of HT_.out (by kernel_rfl)) (fun _ _ _ h => h) (Or.inl ⟨by rfl, ?_⟩) ?_ ?_
   rotate_left
   ·intro w'
    go_simp
    with_reducible rfl
   rotate_left
   ·simp only [Act.put, List.setIfInBounds_toArray, List.set_cons_zero, List.set_cons_succ, i64_w, i32_w]
    rfl
   refine one_ (i := 22) (N := some 43) #[true, true, true, true, true, true, true, true, true, true, true, true, true, true, true, true, true, true, true, true, true, true, true, false, false, false] rfl rfl (one_of HT_.out (by kernel_rfl)) (by decide) (fun K hK => ?_); refine value_ (w1 := ?_) (v := ?_) (by rfl) rfl ?_ ?_
   rotate_left 2
   ·go_simp
    constructor
    ·rfl
    ·rfl
   refine hK.out _ _ ⟨(blk_cell (blk_alloc BK271.out _) 0).trans rfl, (blk_cell (blk_alloc BK271.out _) 1).trans rfl, (blk_cell (blk_alloc BK271.out _) 2).trans rfl, (blk_cell (blk_alloc BK271.out _) 3).trans rfl, (blk_cell (blk_alloc BK269.out _) 0).trans rfl, (blk_cell (blk_alloc BK269.out _) 1).trans rfl, (blk_cell (blk_alloc BK269.out _) 2).trans rfl, (blk_cell (blk_alloc BK269.out _) 3).trans rfl, (World.cell?_alloc_lt _ _ _ (World.block_lt_of_cell? _ _ (hHeld.2.2.2.2.2.2.2.2.1))).trans (hHeld.2.2.2.2.2.2.2.2.1), (World.cell?_alloc_lt _ _ _ (World.block_lt_of_cell? _ _ (hHeld.2.2.2.2.2.2.2.2.2.1))).trans (hHeld.2.2.2.2.2.2.2.2.2.1), (World.cell?_alloc_lt _ _ _ (World.block_lt_of_cell? _ _ (hHeld.2.2.2.2.2.2.2.2.2.2.1))).trans (hHeld.2.2.2.2.2.2.2.2.2.2.1), (World.cell?_alloc_lt _ _ _ (World.block_lt_of_cell? _ _ (hHeld.2.2.2.2.2.2.2.2.2.2.2.1))).trans (hHeld.2.2.2.2.2.2.2.2.2.2.2.1), (World.cell?_alloc_lt _ _ _ (World.block_lt_of_cell? _ _ (hHeld.2.2.2.2.2.2.2.2.2.2.2.2.1))).trans (hHeld.2.2.2.2.2.2.2.2.2.2.2.2.1), (World.cell?_alloc_lt _ _ _ (World.block_lt_of_cell? _ _ (hHeld.2.2.2.2.2.2.2.2.2.2.2.2.2.1))).trans (hHeld.2.2.2.2.2.2.2.2.2.2.2.2.2.1), (World.cell?_alloc_lt _ _ _ (World.block_lt_of_cell? _ _ (hHeld.2.2.2.2.2.2.2.2.2.2.2.2.2.2.1))).trans (hHeld.2.2.2.2.2.2.2.2.2.2.2.2.2.2.1), (World.cell?_alloc_lt _ _ _ (World.block_lt_of_cell? _ _ (hHeld.2.2.2.2.2.2.2.2.2.2.2.2.2.2.2.1))).trans (hHeld.2.2.2.2.2.2.2.2.2.2.2.2.2.2.2.1), (World.cell?_alloc_lt _ _ _ (World.block_lt_of_cell? _ _ (hHeld.2.2.2.2.2.2.2.2.2.2.2.2.2.2.2.2.1))).trans (hHeld.2.2.2.2.2.2.2.2.2.2.2.2.2.2.2.2.1), (World.cell?_alloc_lt _ _ _ (World.block_lt_of_cell? _ _ (hHeld.2.2.2.2.2.2.2.2.2.2.2.2.2.2.2.2.2.1))).trans (hHeld.2.2.2.2.2.2.2.2.2.2.2.2.2.2.2.2.2.1), (World.cell?_alloc_lt _ _ _ (World.block_lt_of_cell? _ _ (hHeld.2.2.2.2.2.2.2.2.2.2.2.2.2.2.2.2.2.2.1))).trans (hHeld.2.2.2.2.2.2.2.2.2.2.2.2.2.2.2.2.2.2.1), (World.cell?_alloc_lt _ _ _ (World.block_lt_of_cell? _ _ (hHeld.2.2.2.2.2.2.2.2.2.2.2.2.2.2.2.2.2.2.2.1))).trans (hHeld.2.2.2.2.2.2.2.2.2.2.2.2.2.2.2.2.2.2.2.1), (World.cell?_alloc_lt _ _ _ (World.block_lt_of_cell? _ _ (hHeld.2.2.2.2.2.2.2.2.2.2.2.2.2.2.2.2.2.2.2.2.1))).trans (hHeld.2.2.2.2.2.2.2.2.2.2.2.2.2.2.2.2.2.2.2.2.1), (World.cell?_alloc_lt _ _ _ (World.block_lt_of_cell? _ _ (hHeld.2.2.2.2.2.2.2.2.2.2.2.2.2.2.2.2.2.2.2.2.2.1))).trans (hHeld.2.2.2.2.2.2.2.2.2.2.2.2.2.2.2.2.2.2.2.2.2.1), (World.cell?_alloc_lt _ _ _ (World.block_lt_of_cell? _ _ (hHeld.2.2.2.2.2.2.2.2.2.2.2.2.2.2.2.2.2.2.2.2.2.2.1))).trans (hHeld.2.2.2.2.2.2.2.2.2.2.2.2.2.2.2.2.2.2.2.2.2.2.1), (World.cell?_alloc_lt _ _ _ (World.block_lt_of_cell? _ _ (hHeld.2.2.2.2.2.2.2.2.2.2.2.2.2.2.2.2.2.2.2.2.2.2.2.1))).trans (hHeld.2.2.2.2.2.2.2.2.2.2.2.2.2.2.2.2.2.2.2.2.2.2.2.1), (World.cell?_alloc_lt _ _ _ (World.block_lt_of_cell? _ _ (hHeld.2.2.2.2.2.2.2.2.2.2.2.2.2.2.2.2.2.2.2.2.2.2.2.2.1))).trans (hHeld.2.2.2.2.2.2.2.2.2.2.2.2.2.2.2.2.2.2.2.2.2.2.2.2.1), (World.cell?_alloc_lt _ _ _ (World.block_lt_of_cell? _ _ (hHeld.2.2.2.2.2.2.2.2.2.2.2.2.2.2.2.2.2.2.2.2.2.2.2.2.2))).trans (hHeld.2.2.2.2.2.2.2.2.2.2.2.2.2.2.2.2.2.2.2.2.2.2.2.2.2)⟩ (fun hHeld => ?_); clear hK K; refine norm_ (a' := ?_) ?_ ?_
   rotate_left
   ·show Act.put _ (some 43) _ = _
    simp only [Act.put, List.setIfInBounds_toArray, List.set_cons_zero, List.set_cons_succ, i64_w, i32_w]
    rfl
   refine last_ (i := 23) (N := some 44) #[true, true, true, true, true, true, true, true, true, true, true, true, true, true, true, true, true, true, true, true, true, true, true, true, false, false] rfl rfl (one_of HT_.out (by kernel_rfl)) (by decide) (fun K hK => ?_); refine Kd.N_append_step k127 (w0 := w) w.heap.size (by rfl) (.tmp 22) (.tmp 43) 75 127 (.agg #[(.int .i64 0), (.int .u64 0), (.int .u64 0), (.slice none 0 0), (.int .i64 0), (.int .i64 0)]) 64 rfl Tryd.underlying75 info127 rfl (by decide) (by omega) u272002 x272002_1 (⟨(⟨t273, t274, t275, t276⟩ : S123), (rd_T93 l0_2 x4_1).f1, (rd_T93 l0_2 x4_1).f2⟩ : S127) [.int .i64 t273, .int .u64 t274, .int .u64 t275, .slice Ao19 t276.length co19, .int .i64 ((rd_T93 l0_2 x4_1).f1), .int .i64 ((rd_T93 l0_2 x4_1).f2)] (fun k_ => (P0_2_ k_ ∨ w.heap.size ≤ k_) ∧ k_ ≠ gb269 ∧ k_ ≠ gb270 ∧ k_ ≠ gb271) (fun k_ => ((fun k_ => (P0_2_ k_ ∨ w.heap.size ≤ k_) ∧ k_ ≠ gb269 ∧ k_ ≠ gb270 ∧ k_ ≠ gb271)) k_ ∧ some k_ ≠ (u272002 : Value).ownBlock) rfl rfl ?aP (fun _ hk => hk) ?aF ?aO ?aB ?aS ?aL ?_; (case aP => exact (k127_mkF _ _ (⟨(⟨t273, t274, t275, t276⟩ : S123), (rd_T93 l0_2 x4_1).f1, (rd_T93 l0_2 x4_1).f2⟩ : S127) (Kd.V_reads' (Kd.V_mono (ok' := (fun k_ => ((fun k_ => (P0_2_ k_ ∨ w.heap.size ≤ k_) ∧ k_ ≠ gb269 ∧ k_ ≠ gb270 ∧ k_ ≠ gb271)) k_ ∧ some k_ ≠ (u272002 : Value).ownBlock)) (HO278.out) (fun k_ hk => ⟨⟨hk.1, ⟨hk.2.2.1, ⟨hk.2.2.2.1, hk.2.2.2.2⟩⟩⟩, hk.2.1⟩))).2.1 (Kd.V_F (Kd.V_mono (ok' := (fun k_ => ((fun k_ => (P0_2_ k_ ∨ w.heap.size ≤ k_) ∧ k_ ≠ gb269 ∧ k_ ≠ gb270 ∧ k_ ≠ gb271)) k_ ∧ some k_ ≠ (u272002 : Value).ownBlock)) (HO278.out) (fun k_ hk => ⟨⟨hk.1, ⟨hk.2.2.1, ⟨hk.2.2.2.1, hk.2.2.2.2⟩⟩⟩, hk.2.1⟩))))); (case aB => exact (by repeat (first | (with_reducible first | exact HB.out | apply yA | apply yN | apply yD | refine yS ?_ GE269.out | refine yS ?_ GE270.out | refine yS ?_ GE271.out) | exact HB.out))); (case aF => exact (fun k_ hk => ⟨(.inr (Nat.le_trans (below_size (by repeat (first | (with_reducible first | exact HB.out | apply yA | apply yN | apply yD | refine yS ?_ GE269.out | refine yS ?_ GE270.out | refine yS ?_ GE271.out) | exact HB.out))) hk)), Kd.freshB (g := gb269) (o := .cells #[.int .i64 a0_0, .int .u64 a0_1, .slice (some ad272) l0_2.length c0_2, .int .i64 a0_3] 72 (0, 0)) (bx_ BK269) k_ hk, Kd.freshB (g := gb270) (o := .cells #[.int .i64 0, .int .u64 0, .slice none 0 0, .int .i64 0] 77 (0, 0)) (bx_ BK270) k_ hk, Kd.freshB (g := gb271) (o := .cells #[.int .i64 a0_0, .int .u64 a0_1, u272002, .int .i64 a0_3] 77 (0, 0)) (bx_ BK271) k_ hk⟩)); (case aO => exact (nx_ HO_272002)); (case aS => exact (below_size (by repeat (first | (with_reducible first | exact HB.out | apply yA | apply yN | apply yD | refine yS ?_ GE269.out | refine yS ?_ GE270.out | refine yS ?_ GE271.out) | exact HB.out)))); (case aL => have := LMc13.out; omega); intro v282 w20 ho hb hg hat; (rw [← Ny281.out] at ho; have n0_ := Aside0.mk (Kd.V_afterv (ok := (fun k_ => (P0_2_ k_ ∨ w.heap.size ≤ k_) ∧ k_ ≠ gb269 ∧ k_ ≠ gb270 ∧ k_ ≠ gb271)) (by (with_reducible repeat first | apply vA_ | apply vN_ | apply vD_); exact Kd.V_mono HO_270002.out (fun _ hk => ⟨⟨hk.1, ⟨hk.2.2.1, ⟨hk.2.2.2.1, hk.2.2.2.2⟩⟩⟩, hk.2.1⟩)) hg hat); have n1_ := Aside0.mk (blk_grown (g := gb269) (o := .cells #[.int .i64 a0_0, .int .u64 a0_1, .slice (some ad272) l0_2.length c0_2, .int .i64 a0_3] 72 (0, 0)) (bx_ BK269) hg (Kd.N_ne HO_272002.out BK269.out (by decide))); have n2_ := Aside0.mk (blk_grown (g := gb270) (o := .cells #[.int .i64 0, .int .u64 0, .slice none 0 0, .int .i64 0] 77 (0, 0)) (bx_ BK270) hg (Kd.N_ne HO_272002.out BK270.out (by decide))); have n3_ := Aside0.mk (blk_grown (g := gb271) (o := .cells #[.int .i64 a0_0, .int .u64 a0_1, u272002, .int .i64 a0_3] 77 (0, 0)) (bx_ BK271) hg (Kd.N_ne HO_272002.out BK271.out (by decide))); have n4_ := Aside0.mk (Kd.V_afterv (ok := (fun k_ => (P0_2_ k_ ∨ w.heap.size ≤ k_) ∧ k_ ≠ gb269 ∧ k_ ≠ gb270 ∧ k_ ≠ gb271)) (by (with_reducible repeat first | apply vA_ | apply vN_ | apply vD_); exact Kd.V_mono HL272_3.out (fun _ hk => ⟨⟨hk.1, ⟨hk.2.2.1, ⟨hk.2.2.2.1, hk.2.2.2.2⟩⟩⟩, hk.2.1⟩)) hg hat); have n5_ := Aside0.mk (Kd.V_afterv (ok := (fun k_ => (P0_2_ k_ ∨ w.heap.size ≤ k_) ∧ k_ ≠ gb269 ∧ k_ ≠ gb270 ∧ k_ ≠ gb271)) (by (with_reducible repeat first | apply vA_ | apply vN_ | apply vD_); exact Kd.V_mono HL279_3.out (fun _ hk => ⟨⟨hk.1, ⟨hk.2.2.1, ⟨hk.2.2.2.1, hk.2.2.2.2⟩⟩⟩, hk.2.1⟩)) hg hat); have n6_ := Aside0.mk (Kd.V_afterv (ok := (fun k_ => (P0_2_ k_ ∨ w.heap.size ≤ k_) ∧ k_ ≠ gb269 ∧ k_ ≠ gb270 ∧ k_ ≠ gb271)) (by (with_reducible repeat first | apply vA_ | apply vN_ | apply vD_); exact Kd.V_mono HL280_3.out (fun _ hk => ⟨⟨hk.1, ⟨hk.2.2.1, ⟨hk.2.2.2.1, hk.2.2.2.2⟩⟩⟩, hk.2.1⟩)) hg hat); have n7_ := Aside0.mk (Kd.V_afterv (ok := (fun k_ => (P0_2_ k_ ∨ w.heap.size ≤ k_) ∧ k_ ≠ gb269 ∧ k_ ≠ gb270 ∧ k_ ≠ gb271)) (by (with_reducible repeat first | apply vA_ | apply vN_ | apply vD_); exact Kd.V_mono HO278.out (fun _ hk => ⟨⟨hk.1, ⟨hk.2.2.1, ⟨hk.2.2.2.1, hk.2.2.2.2⟩⟩⟩, hk.2.1⟩)) hg hat); have n8_ := Aside0.mk (hb); have n9_ := Aside0.mk (ho); clear HO_270002; clear BK269; clear BK270; clear BK271; clear HL272_3; clear HL279_3; clear HL280_3; clear HO278; clear HB; clear HO_272002; have HO_270002 := n0_; have BK269 := n1_; have BK270 := n2_; have BK271 := n3_; have HL272_3 := n4_; have HL279_3 := n5_; have HL280_3 := n6_; have HO278 := n7_; have HB := n8_; have HO283 := n9_; clear n0_ n1_ n2_ n3_ n4_ n5_ n6_ n7_ n8_ n9_; clear ho hb hg hat; obtain ⟨Ao21, co21, eo21⟩ := Kd.N_slice HO283.out); (first | subst eo21 | (injection eo21 with f1_ f2_ f3_; have f4_ := f1_.symm; have f5_ := f3_.symm; clear f1_ f2_ f3_; subst f4_; subst f5_)); refine hK.out _ _ ?_; clear hK K; refine norm_ (a' := ?_) ?_ ?_
   rotate_left
   ·show Act.put _ (some 44) _ = _
    simp only [Act.put, List.setIfInBounds_toArray, List.set_cons_zero, List.set_cons_succ, i64_w, i32_w]
    rfl
   refine pure_ (i := 24) (N := some 45) (v := ?_) (a' := ?_) #[true, true, true, true, true, true, true, true, true, true, true, true, true, true, true, true, true, true, true, true, true, true, true, true, true, false] rfl rfl (any_of HT_.out (by kernel_rfl)) (fun _ _ _ h => h) (Or.inl ⟨by rfl, ?_⟩) ?_ ?_
   rotate_left
   ·intro w'
    go_simp
    with_reducible rfl
   rotate_left
   ·simp only [Act.put, List.setIfInBounds_toArray, List.set_cons_zero, List.set_cons_succ, i64_w, i32_w]
    rfl
   refine last_ (i := 25) (N := none) #[true, true, true, true, true, true, true, true, true, true, true, true, true, true, true, true, true, true, true, true, true, true, true, true, true, true] rfl rfl (one_of HT_.out (by kernel_rfl)) (by decide) (fun K hK => ?_); have hs22 : w20.cell? ⟨gb271, 2, none⟩ = some (u272002) := (blk_cell BK271.out 2).trans rfl; have hfs22 := blk_frozen BK271.out 2; have hns22_0 := NB269_271.out; have hns22_1 := NB270_271.out; have hms22_0 := NB271_269.out; have hms22_1 := NB271_270.out; refine skip_ (w1 := ?_) (by rfl) rfl ?_ ?_
   rotate_left
   ·go_simp
    rfl
   refine hK.out _ _ ?_; clear hK K; refine done_ (done_of HT_.out (by kernel_rfl)) ?_
   try go_wp2
   go_roundg k1
   case measure => have := HK1.out; omega
   case rel => exact ⟨(wrap64 (x4_1 + 1)), (y281), (.slice Ao21 y281.length co21), (by first | rfl | (simp; done) | (simp [*]; done)), H', ⟨by have := HK1.out; omega⟩, ⟨by (with_reducible repeat first | apply vA_ | apply vN_ | apply vD_); exact Kd.V_mono (Kd.V_far (p := ⟨gb271, 2, none⟩) (Kd.V_mono HO_270002.out (fun k_ hk => (⟨hk, hk.1.2.2.2⟩ : _ ∧ k_ ≠ gb271))) (fun _ hk => hk.2) (.slice Ao21 y281.length co21)) (fun _ hk => ⟨hk.1.1.1, ⟨hk.1.2, ⟨hk.1.1.2.1, ⟨hk.1.1.2.2.1, hk.1.1.2.2.2⟩⟩⟩⟩)⟩, ⟨by (with_reducible repeat first | apply nA_ | apply nN_ | apply nD_); exact Kd.N_mono (Kd.N_far (p := ⟨gb271, 2, none⟩) (Kd.N_mono HO283.out (fun k_ hk => (⟨hk, hk.2.2.2⟩ : _ ∧ k_ ≠ gb271))) (fun _ hk => hk.2) (.slice Ao21 y281.length co21)) (fun _ hk => ⟨hk.1.1, ⟨hk.1.2.1, ⟨hk.1.2.2.1, hk.1.2.2.2⟩⟩⟩)⟩, ⟨by (with_reducible repeat first | apply zN | apply zD | apply zA); refine blk_far ?_ NB269_271.out _; (with_reducible repeat first | apply zN | apply zD | apply zA); exact BK269.out⟩, ⟨by (with_reducible repeat first | apply zN | apply zD | apply zA); refine blk_far ?_ NB270_271.out _; (with_reducible repeat first | apply zN | apply zD | apply zA); exact BK270.out⟩, ⟨by (with_reducible repeat first | apply zN | apply zD | apply zA); refine blk_put (cs := #[.int .i64 a0_0, .int .u64 a0_1, u272002, .int .i64 a0_3]) ?_ 2 _ rfl; (with_reducible repeat first | apply zN | apply zD | apply zA); exact BK271.out⟩, ⟨by repeat (first | (with_reducible first | exact HB.out | apply yA | apply yN | apply yD | refine yS ?_ GE269.out | refine yS ?_ GE270.out | refine yS ?_ GE271.out) | exact HB.out)⟩⟩
end Go.Proofs.YtlgfmmkabnbllaaDoor.PS
namespace Go.Proofs.YtlgfmmkabnbllaaDoor.Hand
open Go.RowKit Go.Proofs.YtlgfmmkabnbllaaDoorW.PrintWords Go.Proofs.YtlgfmmkabnbllaaDoorW.PrintLast Go.Proofs.YtlgfmmkabnbllaaDoorW.PrintMore Go.Proofs.YtlgfmmkabnbllaaDoor.PA Go.Proofs.YtlgfmmkabnbllaaDoor.PS
theorem rnum_step (k : Nat) (s : ByteArray) (n j : Int) (h1 : 1 ≤ j) (h6 : j ≤ 6) (hs : s.size = 7) (hn : 0 ≤ n ∧ n ≤ 100000) :
    tikref13_Number.l0 (k + 1) s n j = if bt s j < 48 then some (0, false) else if bt s j > 57 then some (0, false) else tikref13_Number.l0 k s (n * 10 + (bt s j - 48)) (j + 1) := by
  rw [tikref13_Number.l0, if_pos (by omega), if_pos (by omega), if_pos (by omega)]
  by_cases h2 : bt s j < 48
  · rw [if_pos h2, if_pos h2]
  rw [if_neg h2, if_neg h2]
  by_cases h3 : bt s j > 57
  · rw [if_pos h3, if_pos h3]
  rw [if_neg h3, if_neg h3, IntWalk.wrap64_in (10 * n) (by omega), IntWalk.wrap64_in (j + 1) (by omega)]
  have e : (bt s j - 48) % 256 = bt s j - 48 := by omega
  rw [e, IntWalk.wrap64_in _ (by omega)]
  congr 1
  omega
theorem rnum_end (k : Nat) (s : ByteArray) (n : Int) : tikref13_Number.l0 (k + 1) s n 7 = some (n, decide (n > 0)) := by
  rw [tikref13_Number.l0, if_neg (by omega)]
theorem seven (s : ByteArray) (h : s.size = 7) : ∃ a b c d e f g, s = ⟨#[a, b, c, d, e, f, g]⟩ := by
  obtain ⟨⟨l⟩⟩ := s
  have h' : l.length = 7 := h
  match l, h' with
  | [a, b, c, d, e, f, g], _ => exact ⟨a, b, c, d, e, f, g, rfl⟩
theorem rnum_name (k : Nat) (a : Int) (h0 : 1 ≤ a) (h1 : a ≤ 999999) : tikref13_Number.f (k + 9) (nameV a) = some (a, true) := by
  obtain ⟨n, rfl⟩ : ∃ n : Nat, a = n := ⟨a.toNat, by omega⟩
  have hv : nameV (n : Int) = nameB n := by unfold nameV; rw [if_neg (by omega)]; rfl
  have hs : (nameB n).size = 7 := rfl
  have hb := fun j h => bt_name n j h
  have b0 : bt (nameB n) 0 = 115 := rfl
  have b1 : bt (nameB n) 1 = 48 + ((n / 10 ^ 5 % 10 : Nat) : Int) := bt_name n 0 (by omega)
  have b2 : bt (nameB n) (1 + 1) = 48 + ((n / 10 ^ 4 % 10 : Nat) : Int) := bt_name n 1 (by omega)
  have b3 : bt (nameB n) (1 + 1 + 1) = 48 + ((n / 10 ^ 3 % 10 : Nat) : Int) := bt_name n 2 (by omega)
  have b4 : bt (nameB n) (1 + 1 + 1 + 1) = 48 + ((n / 10 ^ 2 % 10 : Nat) : Int) := bt_name n 3 (by omega)
  have b5 : bt (nameB n) (1 + 1 + 1 + 1 + 1) = 48 + ((n / 10 ^ 1 % 10 : Nat) : Int) := bt_name n 4 (by omega)
  have b6 : bt (nameB n) (1 + 1 + 1 + 1 + 1 + 1) = 48 + ((n / 10 ^ 0 % 10 : Nat) : Int) := bt_name n 5 (by omega)
  unfold tikref13_Number.f
  rw [hv, hs, b0]
  refine (if_pos rfl).trans ((if_pos (by decide)).trans ?_)
  have e9 : k + 9 = (k + 8) + 1 := rfl
  rw [e9, tikref13_Number.j0]
  refine (if_neg (by decide)).trans ?_
  rw [rnum_step (k + 7) _ 0 1 (by omega) (by omega) hs (by omega), b1, if_neg (by omega), if_neg (by omega)]
  rw [rnum_step (k + 6) _ _ (1 + 1) (by omega) (by omega) hs (by omega), b2, if_neg (by omega), if_neg (by omega)]
  rw [rnum_step (k + 5) _ _ (1 + 1 + 1) (by omega) (by omega) hs (by omega), b3, if_neg (by omega), if_neg (by omega)]
  rw [rnum_step (k + 4) _ _ (1 + 1 + 1 + 1) (by omega) (by omega) hs (by omega), b4, if_neg (by omega), if_neg (by omega)]
  rw [rnum_step (k + 3) _ _ (1 + 1 + 1 + 1 + 1) (by omega) (by omega) hs (by omega), b5, if_neg (by omega), if_neg (by omega)]
  rw [rnum_step (k + 2) _ _ (1 + 1 + 1 + 1 + 1 + 1) (by omega) (by omega) hs (by omega), b6, if_neg (by omega), if_neg (by omega)]
  refine (rnum_end (k + 1) _ _).trans ?_
  rw [decide_eq_true (by omega)]
  congr 2
  omega
theorem rnum_any (k : Nat) (s : ByteArray) : ∃ x b, tikref13_Number.f (k + 9) s = some (x, b) ∧ (b = true → ∃ n : Nat, 1 ≤ n ∧ n ≤ 999999 ∧ s = nameB n) := by
  have e9 : k + 9 = (k + 8) + 1 := rfl
  have ht : tikref13_Number.j0 (k + 9) s 0 true = some (0, false) := rfl
  unfold tikref13_Number.f
  by_cases hs7 : s.size = 7
  case neg => exact ⟨0, false, by rw [if_neg (by omega), ht], by simp⟩
  rw [if_pos (by omega), if_pos (by omega)]
  by_cases h0 : bt s 0 = 115
  case neg =>
    have : (bt s 0 != 115) = true := by simpa using h0
    exact ⟨0, false, by rw [this, ht], by simp⟩
  have hne : (bt s 0 != 115) = false := by simpa using h0
  rw [hne, e9, tikref13_Number.j0]
  obtain ⟨a, b, c, d, e, f, g, rfl⟩ := seven s hs7
  have y0 : ((a.toNat : Nat) : Int) = 115 := h0
  have y1 : bt ⟨#[a, b, c, d, e, f, g]⟩ 1 = (b.toNat : Int) := rfl
  have y2 : bt ⟨#[a, b, c, d, e, f, g]⟩ (1 + 1) = (c.toNat : Int) := rfl
  have y3 : bt ⟨#[a, b, c, d, e, f, g]⟩ (1 + 1 + 1) = (d.toNat : Int) := rfl
  have y4 : bt ⟨#[a, b, c, d, e, f, g]⟩ (1 + 1 + 1 + 1) = (e.toNat : Int) := rfl
  have y5 : bt ⟨#[a, b, c, d, e, f, g]⟩ (1 + 1 + 1 + 1 + 1) = (f.toNat : Int) := rfl
  have y6 : bt ⟨#[a, b, c, d, e, f, g]⟩ (1 + 1 + 1 + 1 + 1 + 1) = (g.toNat : Int) := rfl
  have fin : ∀ {r : Option (Int × Bool)}, r = some (0, false) → ∃ x b', r = some (x, b') ∧ (b' = true → ∃ n : Nat, 1 ≤ n ∧ n ≤ 999999 ∧ (⟨#[a, b, c, d, e, f, g]⟩ : ByteArray) = nameB n) := fun h => ⟨0, false, h, by simp⟩
  rw [if_neg (by decide)]
  rw [rnum_step (k + 7) _ 0 1 (by omega) (by omega) hs7 (by omega), y1]
  by_cases p1 : (b.toNat : Int) < 48
  · exact fin (if_pos p1)
  by_cases q1 : (b.toNat : Int) > 57
  · exact fin ((if_neg p1).trans (if_pos q1))
  rw [if_neg p1, if_neg q1, rnum_step (k + 6) _ _ (1 + 1) (by omega) (by omega) hs7 (by omega), y2]
  by_cases p2 : (c.toNat : Int) < 48
  · exact fin (if_pos p2)
  by_cases q2 : (c.toNat : Int) > 57
  · exact fin ((if_neg p2).trans (if_pos q2))
  rw [if_neg p2, if_neg q2, rnum_step (k + 5) _ _ (1 + 1 + 1) (by omega) (by omega) hs7 (by omega), y3]
  by_cases p3 : (d.toNat : Int) < 48
  · exact fin (if_pos p3)
  by_cases q3 : (d.toNat : Int) > 57
  · exact fin ((if_neg p3).trans (if_pos q3))
  rw [if_neg p3, if_neg q3, rnum_step (k + 4) _ _ (1 + 1 + 1 + 1) (by omega) (by omega) hs7 (by omega), y4]
  by_cases p4 : (e.toNat : Int) < 48
  · exact fin (if_pos p4)
  by_cases q4 : (e.toNat : Int) > 57
  · exact fin ((if_neg p4).trans (if_pos q4))
  rw [if_neg p4, if_neg q4, rnum_step (k + 3) _ _ (1 + 1 + 1 + 1 + 1) (by omega) (by omega) hs7 (by omega), y5]
  by_cases p5 : (f.toNat : Int) < 48
  · exact fin (if_pos p5)
  by_cases q5 : (f.toNat : Int) > 57
  · exact fin ((if_neg p5).trans (if_pos q5))
  rw [if_neg p5, if_neg q5, rnum_step (k + 2) _ _ (1 + 1 + 1 + 1 + 1 + 1) (by omega) (by omega) hs7 (by omega), y6]
  by_cases p6 : (g.toNat : Int) < 48
  · exact fin (if_pos p6)
  by_cases q6 : (g.toNat : Int) > 57
  · exact fin ((if_neg p6).trans (if_pos q6))
  rw [if_neg p6, if_neg q6]
  obtain ⟨x, hx⟩ : ∃ x, x = (((((0 * 10 + ((b.toNat : Int) - 48)) * 10 + ((c.toNat : Int) - 48)) * 10 + ((d.toNat : Int) - 48)) * 10 + ((e.toNat : Int) - 48)) * 10 + ((f.toNat : Int) - 48)) * 10 + ((g.toNat : Int) - 48) := ⟨_, rfl⟩
  rw [← hx]
  refine ⟨x, decide (x > 0), rnum_end (k + 1) _ x, fun hb => ⟨x.toNat, ?_, ?_, ?_⟩⟩
  · have := of_decide_eq_true hb; omega
  · omega
  · have z0 : a = 115 := by rw [← UInt8.toNat_inj]; show a.toNat = 115; omega
    have z : ∀ (u : UInt8) (j : Nat), u.toNat = 48 + x.toNat / 10 ^ j % 10 → u = dU x.toNat j := fun u j h => by rw [← UInt8.toNat_inj, dU_nat]; exact h
    have z1 := z b 5 (by omega)
    have z2 := z c 4 (by omega)
    have z3 := z d 3 (by omega)
    have z4 := z e 2 (by omega)
    have z5 := z f 1 (by omega)
    have z6 := z g 0 (by omega)
    rw [z0, z1, z2, z3, z4, z5, z6]
    rfl
theorem both_num (k : Nat) (hk : 9 ≤ k) (s : ByteArray) : ∃ x y b, seg_Number.f k s = some (x, b) ∧ tikref13_Number.f k s = some (y, b) ∧ (b = true → x = y) := by
  obtain ⟨k, rfl⟩ : ∃ j, k = j + 9 := ⟨k - 9, by omega⟩
  by_cases hn : ∃ n : Nat, 1 ≤ n ∧ n ≤ 999999 ∧ s = nameB n
  · obtain ⟨n, h1, h2, rfl⟩ := hn
    have hv : nameV (n : Int) = nameB n := by unfold nameV; rw [if_neg (by omega)]; rfl
    have e1 := num_name (k + 2) (n : Int) (by omega) (by omega)
    have e2 := rnum_name k (n : Int) (by omega) (by omega)
    rw [hv] at e1 e2
    exact ⟨n, n, true, e1, e2, fun _ => rfl⟩
  · obtain ⟨y, b, e2, h2⟩ := rnum_any k s
    obtain ⟨x, c, e1, h1, _⟩ := num_any (k + 1) s
    have hb : b = false := by
      cases b
      · rfl
      · exact absurd (h2 rfl) hn
    have hc : c = false := by
      cases c
      · rfl
      · exfalso
        obtain ⟨i1, i2⟩ := h1 rfl
        by_cases hx : x ≤ 999999
        · refine hn ⟨x.toNat, by omega, by omega, ?_⟩
          have hv : nameV x = nameB x.toNat := by unfold nameV; rw [if_neg (by omega)]
          rw [hv, ByteArray.toList_eq, ByteArray.toList_eq] at i2
          exact (WideShapes.bytes_inj i2).symm
        · have hv : nameV x = ⟨#[]⟩ := by unfold nameV; rw [if_pos (.inr (by omega))]
          rw [hv, ByteArray.toList_eq, ByteArray.toList_eq] at i2
          have hs : s = ⟨#[]⟩ := (WideShapes.bytes_inj i2).symm
          rw [hs] at e1
          have e0 : seg_Number.f (k + 1 + 8) ⟨#[]⟩ = some (0, false) := rfl
          rw [e0] at e1
          injection e1 with e1
          injection e1 with _ e1
          cases e1
    subst hb hc
    exact ⟨x, y, false, e1, e2, fun h => by cases h⟩
end Go.Proofs.YtlgfmmkabnbllaaDoor.Hand
namespace Go.Proofs.YtlgfmmkabnbllaaDoor.Hand
open Go.RowKit Go.Proofs.YtlgfmmkabnbllaaDoorW.PrintWords Go.Proofs.YtlgfmmkabnbllaaDoorW.PrintLast Go.Proofs.YtlgfmmkabnbllaaDoorW.PrintMore Go.Proofs.YtlgfmmkabnbllaaDoor.PA Go.Proofs.YtlgfmmkabnbllaaDoor.PS
abbrev Rc := S88
abbrev Pt := S93
def encR (r : Rc) : List Int := encL r.f0 r.f1 r.f2 r.f3
def MayS (r : Rc) : Prop := MayR r.f0 r.f1 r.f2 r.f3 ∧ Bytes255 r.f3 ∧ r.f3.length ≤ 300
def catR (l : List Rc) : List Int := (l.map encR).flatten
def posR (l : List Rc) (i : Nat) : Int := 20 + ((catR (l.take i)).length : Int)
def atR (l : List Rc) (i : Nat) : Rc := rd_T88 l (i : Int)
def partR (l : List Rc) (i : Nat) : Pt := ⟨atR l i, posR l i, posR l (i + 1)⟩
def partsR (l : List Rc) (i : Nat) : List Pt := (List.range i).map (partR l)
theorem catR_app (a b : List Rc) : catR (a ++ b) = catR a ++ catR b := by simp [catR]
theorem catR_one (r : Rc) : catR [r] = encR r := by simp [catR]
theorem take_at (l : List Rc) (i : Nat) (h : i < l.length) : l.take (i + 1) = l.take i ++ [atR l i] := by
  have : atR l i = l[i] := by
    unfold atR rd_T88
    rw [Int.toNat_natCast, List.getD_eq_getElem?_getD, List.getElem?_eq_getElem h]
    rfl
  rw [this, List.take_add_one, List.getElem?_eq_getElem h]
  rfl
theorem pos_succ (l : List Rc) (i : Nat) (h : i < l.length) : posR l (i + 1) = posR l i + ((encR (atR l i)).length : Int) := by
  unfold posR
  rw [take_at l i h, catR_app, catR_one, List.length_append]
  omega
theorem pos_zero (l : List Rc) : posR l 0 = 20 := rfl
theorem pos_all (l : List Rc) : posR l l.length = 20 + ((catR l).length : Int) := by unfold posR; rw [List.take_of_length_le (Nat.le_refl _)]
theorem parts_len (l : List Rc) (i : Nat) : (partsR l i).length = i := by simp [partsR]
theorem parts_succ (l : List Rc) (i : Nat) : partsR l (i + 1) = partsR l i ++ [partR l i] := by simp [partsR, List.range_succ]
theorem parts_at (l : List Rc) (n j : Nat) (h : j < n) : rd_T93 (partsR l n) (j : Int) = partR l j := by
  unfold rd_T93 partsR
  rw [Int.toNat_natCast, List.getD_eq_getElem?_getD, List.getElem?_map, List.getElem?_range h]
  rfl
theorem cat_at (l : List Rc) (i : Nat) (h : i < l.length) : catR l = catR (l.take i) ++ (encR (atR l i) ++ catR (l.drop (i + 1))) := by
  conv => lhs; rw [← List.take_append_drop (i + 1) l]
  rw [catR_app, take_at l i h, catR_app, catR_one, List.append_assoc]
structure OkFile (f : Int) (l : List Rc) : Prop where
  f0 : 1 ≤ f
  f1 : f ≤ 4611686018427387904
  may : ∀ i, i < l.length → MayS (atR l i)
  seq : ∀ i, i < l.length → (atR l i).f1 = f + (i : Int)
  key : 0 < l.length → (atR l 0).f0 = 1
  time : ∀ i, i + 1 < l.length → (atR l i).f2 ≤ (atR l (i + 1)).f2
theorem next_f {f : Int} {l : List Rc} (h : OkFile f l) (n g : Int) (i : Nat) (hi : i < l.length) (hl : l.length ≤ 30) :
    seg_Scan_next.f n f (partsR l i) g (atR l i).f0 (atR l i).f1 (atR l i).f2 (atR l i).f3 = some true := by
  have hm := (h.may i hi).1.may
  have hs := h.seq i hi
  unfold seg_Scan_next.f
  rw [parts_len]
  rcases Nat.eq_zero_or_pos i with rfl | hp
  · refine (if_pos rfl).trans ((if_pos (h.key hi)).trans ?_)
    rw [hs]
    simp
  · obtain ⟨j, rfl⟩ : ∃ j, i = j + 1 := ⟨i - 1, by omega⟩
    have hw : wrap64 (((j + 1 : Nat) : Int) - 1) = (j : Int) := by rw [IntWalk.wrap64_in _ (by omega)]; omega
    have hs' := h.seq j (by omega)
    have hr : rd_T93 (partsR l (j + 1)) (j : Int) = partR l j := parts_at l (j + 1) j (by omega)
    have hu : IntKind.u64.wrap ((atR l j).f1 + 1) = (atR l (j + 1)).f1 := by
      have := h.f0
      rw [IntWalk.u64_in _ (by have := hm.2.2.1; omega)]
      omega
    rw [hw, hr]
    refine (if_neg (by omega)).trans ((if_pos (by omega)).trans ((if_pos (by omega)).trans ?_))
    have e1 : (partR l j).f0 = atR l j := rfl
    rw [e1, hu, if_pos rfl, decide_eq_true (show (atR l (j + 1)).f2 ≥ (atR l j).f2 from h.time j hi)]
theorem read_run {f n : Int} {l : List Rc} (h : OkFile f l) (hl : l.length ≤ 30) {X H S : List Int} {M : Nat} (hM : M ≤ l.length) (hH : H.length = 20) (hX : X = H ++ (catR (l.take M) ++ S)) (hb : Bytes255 X) (hs : X.length < 140737488355328) :
    ∀ (m k i : Nat), i + m = M → seg_Read.l0 (k + m) X n f (partsR l i) (posR l i) = seg_Read.l0 k X n f (partsR l M) (posR l M)
  | 0, k, i, hi => by
    obtain rfl : i = M := by omega
    rfl
  | m + 1, k, i, hi => by
    have hil : i < l.length := by omega
    have hT : (l.take M).length = M := by rw [List.length_take]; omega
    have ht : atR (l.take M) i = atR l i := by
      unfold atR rd_T88
      rw [Int.toNat_natCast, List.getD_eq_getElem?_getD, List.getD_eq_getElem?_getD, List.getElem?_take_of_lt (by omega)]
    have h1 := cat_at (l.take M) i (by omega)
    rw [ht, List.take_take, Nat.min_eq_left (by omega)] at h1
    have hX2 : X = (H ++ catR (l.take i)) ++ (encR (atR l i) ++ (catR ((l.take M).drop (i + 1)) ++ S)) := by
      rw [hX, h1]
      simp only [List.append_assoc]
    have hp : (((H ++ catR (l.take i)).length : Nat) : Int) = posR l i := by
      rw [List.length_append, hH]
      unfold posR
      omega
    have hd := dec_enc (H ++ catR (l.take i)) (catR ((l.take M).drop (i + 1)) ++ S) (h.may i hil).1
    have e0 : encL (atR l i).f0 (atR l i).f1 (atR l i).f2 (atR l i).f3 = encR (atR l i) := rfl
    rw [e0, ← hX2, hp, ← pos_succ l i hil] at hd
    have hle : posR l i ≤ X.length := by
      rw [← hp]
      have := congrArg List.length hX2
      rw [List.length_append] at this
      omega
    have hdf := dec_f X (posR l i) hb hs (by unfold posR; omega) hle
    rw [hd] at hdf
    have e : k + (m + 1) = k + m + 1 := rfl
    rw [e, seg_Read.l0, hdf, Option.bind_some]
    refine (if_pos rfl).trans ?_
    dsimp only [decOut]
    rw [next_f h n (posR l i) i hil hl, Option.bind_some]
    refine (if_pos rfl).trans ((if_pos (by rw [parts_len]; omega)).trans ?_)
    have e2 : (partsR l i ++ [(⟨(⟨(atR l i).f0, (atR l i).f1, (atR l i).f2, (atR l i).f3⟩ : Rc), posR l i, posR l (i + 1)⟩ : Pt)]) = partsR l (i + 1) := (parts_succ l i).symm
    rw [e2]
    exact read_run h hl hM hH hX hb hs m k (i + 1) (by omega)
theorem dec_err_ne {l : List Int} {a x : Int} (h : decV l a = .error x) : x ≠ 0 := by
  unfold decV at h
  split at h
  case isFalse => injection h with h; omega
  split at h
  case isFalse => injection h with h; omega
  split at h
  case isFalse => injection h with h; omega
  split at h
  case isFalse hq => injection h with h; rw [← h]; exact hq
  split at h
  case isFalse hq => injection h with h; rw [← h]; exact hq
  split at h
  case isFalse hq => injection h with h; rw [← h]; exact hq
  split at h
  case isFalse => injection h with h; omega
  split at h
  case isFalse => injection h with h; omega
  split at h
  case isFalse => injection h with h; omega
  split at h
  case isFalse => injection h with h; omega
  cases h
theorem cut_err {l : List Rc} (hm : ∀ i, i < l.length → MayS (atR l i)) {H : List Int} (hH : H.length = 20) (hb : Bytes255 (H ++ catR l)) {k M : Nat} (hk : k ≤ (H ++ catR l).length) (hM : M ≤ l.length) (h1 : posR l M ≤ k) (h2 : M < l.length → (k : Int) < posR l (M + 1)) :
    ∃ x, decV ((H ++ catR l).take k) (posR l M) = .error x := by
  cases hd : decV ((H ++ catR l).take k) (posR l M) with
  | error x => exact ⟨x, rfl⟩
  | ok r =>
    exfalso
    obtain ⟨a, s, t, b, e⟩ := r
    have hp0 : 0 ≤ posR l M := by unfold posR; omega
    obtain ⟨i1, i2, i3, i4, i5⟩ := dec_inv (front_bytes hb k) hp0 hd
    have htl : ((H ++ catR l).take k).length = k := by rw [List.length_take]; omega
    rw [htl] at i4
    have he7 : 7 ≤ (encL a s t b).length := by rw [enc_len]; omega
    by_cases hMl : M = l.length
    · have := pos_all l
      rw [hMl, this] at i3
      rw [List.length_append, hH] at hk
      omega
    have hMi : M < l.length := by omega
    have hX := cat_at l M hMi
    have hX2 : H ++ catR l = (H ++ catR (l.take M)) ++ (encR (atR l M) ++ catR (l.drop (M + 1))) := by
      conv => lhs; rw [hX]
      simp only [List.append_assoc]
    have hp : (((H ++ catR (l.take M)).length : Nat) : Int) = posR l M := by
      rw [List.length_append, hH]
      unfold posR
      omega
    have hdB := dec_enc (H ++ catR (l.take M)) (catR (l.drop (M + 1))) (hm M hMi).1
    have e0 : encL (atR l M).f0 (atR l M).f1 (atR l M).f2 (atR l M).f3 = encR (atR l M) := rfl
    rw [e0, ← hX2, hp, ← pos_succ l M hMi] at hdB
    have hs : segL (H ++ catR l) (posR l M) e = encL a s t b := by
      rw [← i1]
      unfold segL
      rw [List.take_take, Nat.min_eq_left (by omega)]
    have hsplit : H ++ catR l = (H ++ catR l).take (posR l M).toNat ++ (encL a s t b ++ (H ++ catR l).drop e.toNat) := by
      rw [← hs]
      unfold segL
      rw [← List.append_assoc]
      conv => lhs; rw [← List.take_append_drop e.toNat (H ++ catR l)]
      congr 1
      conv => lhs; rw [← List.take_append_drop (posR l M).toNat ((H ++ catR l).take e.toNat)]
      congr 1
      rw [List.take_take, Nat.min_eq_left (by omega)]
    have hdA := dec_enc ((H ++ catR l).take (posR l M).toNat) ((H ++ catR l).drop e.toNat) i2
    have hpl : ((((H ++ catR l).take (posR l M).toNat).length : Nat) : Int) = posR l M := by rw [List.length_take]; omega
    rw [← hsplit, hpl, ← i3] at hdA
    have := hdA.symm.trans hdB
    injection this with this
    injection this with _ this
    injection this with _ this
    injection this with _ this
    injection this with _ this
    have := h2 hMi
    omega
theorem read_stop {X : List Int} {n f p x : Int} {parts : List Pt} (hb : Bytes255 X) (hs : X.length < 140737488355328) (h0 : 0 ≤ p) (h1 : p ≤ X.length) (h : decV X p = .error x) (k : Nat) :
    seg_Read.l0 (k + 1) X n f parts p = some (n, f, parts, p, 0) := by
  have hdf := dec_f X p hb hs h0 h1
  rw [h] at hdf
  rw [seg_Read.l0, hdf, Option.bind_some]
  exact if_neg (dec_err_ne h)
theorem read_cut {n f : Int} {l : List Rc} (hh : MayH n f) (h : OkFile f l) (hl : l.length ≤ 30) {k M : Nat} (hk : k ≤ (hdrL n f ++ catR l).length) (hM : M ≤ l.length) (h20 : 20 ≤ k) (h1 : posR l M ≤ k) (h2 : M < l.length → (k : Int) < posR l (M + 1))
    (hb : Bytes255 (hdrL n f ++ catR l)) (hs : (hdrL n f ++ catR l).length < 140737488355328) (K : Nat) (hK : 400 ≤ K) :
    seg_Read.f K ((hdrL n f ++ catR l).take k) = some (n, f, partsR l M, posR l M, 0) := by
  obtain ⟨x, hx⟩ := cut_err h.may (hdr_len n f) hb hk hM h1 h2
  have hpM := pos_all (l.take M)
  have hcM : ((catR (l.take M)).length : Int) = posR l M - 20 := by unfold posR; omega
  have hX : (hdrL n f ++ catR l).take k = hdrL n f ++ (catR (l.take M) ++ (catR (l.drop M)).take (k - 20 - (catR (l.take M)).length)) := by
    conv => lhs; rw [← List.take_append_drop M l]
    rw [catR_app, List.take_append, List.take_of_length_le (by rw [hdr_len]; omega), hdr_len, List.take_append, List.take_of_length_le (by omega)]
  have htl : ((hdrL n f ++ catR l).take k).length = k := by rw [List.length_take]; omega
  have hb' := front_bytes hb k
  obtain ⟨j, rfl⟩ : ∃ j, K = j + 1 + M := ⟨K - 1 - M, by omega⟩
  unfold seg_Read.f
  conv => lhs; rw [hX]
  rw [head_f _ (by omega) n f hh, Option.bind_some]
  refine (if_pos rfl).trans ?_
  rw [← hX]
  have hr := read_run (n := n) h hl hM (hdr_len n f) hX hb' (by omega) M (j + 1) 0 (by omega)
  rw [pos_zero] at hr
  refine hr.trans ?_
  exact read_stop hb' (by omega) (by unfold posR; omega) (by omega) hx j
end Go.Proofs.YtlgfmmkabnbllaaDoor.Hand
