/- Texts of this claim, put together. -/
import Derived.Test.YtlgfmmkabnbllaaDoorMSBa
import Derived.Test.YtlgfmmkabnbllaaDoorMSBc
set_option linter.unusedVariables false
set_option linter.unusedSimpArgs false
namespace Go.Proofs.YtlgfmmkabnbllaaDoor.PS
open Go.RowKit Go.Proofs.YtlgfmmkabnbllaaDoorW.PrintWords Go.Proofs.YtlgfmmkabnbllaaDoorW.PrintLast Go.Proofs.YtlgfmmkabnbllaaDoorW.PrintMore
attribute [local go_sem] max2_int min2_int max_two min_two max_three min_three max_four min_four
open Go.Proofs.YtlgfmmkabnbllaaDoor.Hand
open Go.Proofs.YtlgfmmkabnbllaaDoor.PA
set_option linter.unusedVariables false
set_option linter.unusedSimpArgs false
def rec_Encode.f (k : Nat) (a0_0 : Int) (a0_1 : Int) (a0_2 : Int) (l0_3 : List Int) : Option (List Int × Int) := (rec_May.f a0_0 a0_1 a0_2 l0_3).bind fun t347 => (if t347 = true then ((wire_Var.f k a0_1).bind fun t351 => ((wire_Var.f k a0_2).bind fun t354 => ((wire_Var.f k (IntKind.u64.wrap ((l0_3.length : Int)))).bind fun t357 => ((bytes_Join.f (([(([(a0_0) % 256] : List Int)), t351, t354, t357, l0_3] : List (List Int))) ([] : List Int)).bind fun t363 => ((some (([167, 92] : List Int) : List Int)).bind fun y366 => ((wire_Crc.f k t363).bind fun t369 => ((wire_Four.f t369).bind fun t370 => (if y366.length + t370.length < 140737488355328 then ((some (y366 ++ t370 : List Int)).bind fun y373 => (if y373.length + t363.length < 140737488355328 then (some ((y373 ++ t363), 0)) else (none))) else (none))))))))) else (some (([] : List Int), 1)))
def rec_Encode.T3 : Bool × List (List Nat × List Nat) := (true, [([], []), ([0], [0]), ([1], [1]), ([2], [2]), ([], []), ([4], [4]), ([5], [5]), ([], []), ([7], [7]), ([8, 6], [8]), ([], []), ([10], [10]), ([11], [11]), ([12], [12]), ([13, 9], [13]), ([], []), ([15], [15]), ([3, 6, 9, 14, 16], [3, 6, 9, 14, 16]), ([17, 14], [17]), ([18, 18, 0, 1, 2, 3, 4, 5, 6, 7, 8, 9, 10, 11, 12, 13, 14, 15, 16, 17, 18], [18])])
def rec_Encode.B3 : List Nat := [0, 1, 3, 7, 0, 16, 48, 0, 128, 496, 0, 1024, 3072, 7168, 16368, 0, 32768, 131071, 262143, 524287]
theorem rec_Encode.tab3 : rtab .any (opsOf Tryd.f43 3) = rec_Encode.T3 := by kernel_rfl
theorem rec_Encode.bits3 : waitsOk rec_Encode.T3.2 rec_Encode.B3 = true := by kernel_rfl
set_option maxHeartbeats 8000000 in
set_option maxRecDepth 100000 in
theorem rec_Encode.calls (k : Nat) (a0_0 : Int) (a0_1 : Int) (a0_2 : Int) (P0_3_ : Nat → Prop) (A0_3 : Option Addr) (c0_3 : Nat) (l0_3 : List Int) (r1 : List Int) (r2 : Int) (w : World) (hs0_3 : Kd.V (Kd.int .u8) 5 w w.heap.size (fun k_ => P0_3_ k_) (.slice A0_3 l0_3.length c0_3) l0_3) (h : rec_Encode.f k a0_0 a0_1 a0_2 l0_3 = some (r1, r2)) :
  Calls Tryd.prog 43 #[.agg #[.int .i64 a0_0, .int .u64 a0_1, .int .u64 a0_2, .slice A0_3 l0_3.length c0_3]] w fun e w' => ∃ v0_ : Value, e = .returned (.tuple #[v0_, .int .i64 r2]) ∧ Kd.R (Kd.int .u8) 5 w' w.heap.size (fun k_ => (w.heap.size ≤ k_)) v0_ r1 ∧ Below w.heap.size w w' := by
 have hu88 := Tryd.underlying88
 have HO0_3 := Aside0.mk (show Kd.V (Kd.int .u8) 5 w w.heap.size (fun k_ => (P0_3_ k_ ∨ w.heap.size ≤ k_)) (.slice A0_3 l0_3.length c0_3) l0_3 from Kd.V_mono hs0_3 (fun k_ hk => .inl hk))
 have HB := Aside0.mk (Below.refl w.heap.size w)
 have H : ((rec_May.f a0_0 a0_1 a0_2 l0_3).bind fun t347 => (if t347 = true then ((wire_Var.f k a0_1).bind fun t351 => ((wire_Var.f k a0_2).bind fun t354 => ((wire_Var.f k (IntKind.u64.wrap ((l0_3.length : Int)))).bind fun t357 => ((bytes_Join.f (([(([(a0_0) % 256] : List Int)), t351, t354, t357, l0_3] : List (List Int))) ([] : List Int)).bind fun t363 => ((some (([167, 92] : List Int) : List Int)).bind fun y366 => ((wire_Crc.f k t363).bind fun t369 => ((wire_Four.f t369).bind fun t370 => (if y366.length + t370.length < 140737488355328 then ((some (y366 ++ t370 : List Int)).bind fun y373 => (if y373.length + t363.length < 140737488355328 then (some ((y373 ++ t363), 0)) else (none))) else (none))))))))) else (some (([] : List Int), 1)))) = some (r1, r2) := h
 clear h
 replace H := Option.bind_eq_some_iff.mp H
 obtain ⟨t347, A20, H⟩ := H
 replace H : (if t347 = true then ((wire_Var.f k a0_1).bind fun t351 => ((wire_Var.f k a0_2).bind fun t354 => ((wire_Var.f k (IntKind.u64.wrap ((l0_3.length : Int)))).bind fun t357 => ((bytes_Join.f (([(([(a0_0) % 256] : List Int)), t351, t354, t357, l0_3] : List (List Int))) ([] : List Int)).bind fun t363 => ((some (([167, 92] : List Int) : List Int)).bind fun y366 => ((wire_Crc.f k t363).bind fun t369 => ((wire_Four.f t369).bind fun t370 => (if y366.length + t370.length < 140737488355328 then ((some (y366 ++ t370 : List Int)).bind fun y373 => (if y373.length + t363.length < 140737488355328 then (some ((y373 ++ t363), 0)) else (none))) else (none))))))))) else (some (([] : List Int), 1))) = some (r1, r2) := H
 have A2 := Aside0.mk A20
 clear A20
 by_cases c3 : t347 = true
 ·subst c3
  have H1 : ((wire_Var.f k a0_1).bind fun t351 => ((wire_Var.f k a0_2).bind fun t354 => ((wire_Var.f k (IntKind.u64.wrap ((l0_3.length : Int)))).bind fun t357 => ((bytes_Join.f (([(([(a0_0) % 256] : List Int)), t351, t354, t357, l0_3] : List (List Int))) ([] : List Int)).bind fun t363 => ((some (([167, 92] : List Int) : List Int)).bind fun y366 => ((wire_Crc.f k t363).bind fun t369 => ((wire_Four.f t369).bind fun t370 => (if y366.length + t370.length < 140737488355328 then ((some (y366 ++ t370 : List Int)).bind fun y373 => (if y373.length + t363.length < 140737488355328 then (some ((y373 ++ t363), 0)) else (none))) else (none))))))))) = some (r1, r2) := by rw [if_pos rfl] at H; exact H
  clear H
  have H := H1
  clear H1
  obtain ⟨y348, hy348⟩ : ∃ y_ : List Int, y_ = (([(a0_0) % 256] : List Int)) := ⟨_, rfl⟩
  replace H : ((wire_Var.f k a0_1).bind fun t351 => ((wire_Var.f k a0_2).bind fun t354 => ((wire_Var.f k (IntKind.u64.wrap ((l0_3.length : Int)))).bind fun t357 => ((bytes_Join.f (([y348, t351, t354, t357, l0_3] : List (List Int))) ([] : List Int)).bind fun t363 => ((some (([167, 92] : List Int) : List Int)).bind fun y366 => ((wire_Crc.f k t363).bind fun t369 => ((wire_Four.f t369).bind fun t370 => (if y366.length + t370.length < 140737488355328 then ((some (y366 ++ t370 : List Int)).bind fun y373 => (if y373.length + t363.length < 140737488355328 then (some ((y373 ++ t363), 0)) else (none))) else (none))))))))) = some (r1, r2) := by first | (rw [hy348]; with_reducible exact H) | (have H2_ := (Option.bind_some _ _).symm.trans H; rw [hy348]; with_reducible exact H2_) | (have H2_ := (Option.bind_some _ _).symm.trans H; with_reducible exact H2_) | with_reducible exact H | (rw [hy348]; exact H) | exact H
  have Ny348 := Aside0.mk hy348
  clear hy348
  replace H := Option.bind_eq_some_iff.mp H
  obtain ⟨t351, A40, H⟩ := H
  replace H : ((wire_Var.f k a0_2).bind fun t354 => ((wire_Var.f k (IntKind.u64.wrap ((l0_3.length : Int)))).bind fun t357 => ((bytes_Join.f (([y348, t351, t354, t357, l0_3] : List (List Int))) ([] : List Int)).bind fun t363 => ((some (([167, 92] : List Int) : List Int)).bind fun y366 => ((wire_Crc.f k t363).bind fun t369 => ((wire_Four.f t369).bind fun t370 => (if y366.length + t370.length < 140737488355328 then ((some (y366 ++ t370 : List Int)).bind fun y373 => (if y373.length + t363.length < 140737488355328 then (some ((y373 ++ t363), 0)) else (none))) else (none)))))))) = some (r1, r2) := H
  have A4 := Aside0.mk A40
  clear A40
  replace H := Option.bind_eq_some_iff.mp H
  obtain ⟨t354, A50, H⟩ := H
  replace H : ((wire_Var.f k (IntKind.u64.wrap ((l0_3.length : Int)))).bind fun t357 => ((bytes_Join.f (([y348, t351, t354, t357, l0_3] : List (List Int))) ([] : List Int)).bind fun t363 => ((some (([167, 92] : List Int) : List Int)).bind fun y366 => ((wire_Crc.f k t363).bind fun t369 => ((wire_Four.f t369).bind fun t370 => (if y366.length + t370.length < 140737488355328 then ((some (y366 ++ t370 : List Int)).bind fun y373 => (if y373.length + t363.length < 140737488355328 then (some ((y373 ++ t363), 0)) else (none))) else (none))))))) = some (r1, r2) := H
  have A5 := Aside0.mk A50
  clear A50
  replace H := Option.bind_eq_some_iff.mp H
  obtain ⟨t357, A60, H⟩ := H
  replace H : ((bytes_Join.f (([y348, t351, t354, t357, l0_3] : List (List Int))) ([] : List Int)).bind fun t363 => ((some (([167, 92] : List Int) : List Int)).bind fun y366 => ((wire_Crc.f k t363).bind fun t369 => ((wire_Four.f t369).bind fun t370 => (if y366.length + t370.length < 140737488355328 then ((some (y366 ++ t370 : List Int)).bind fun y373 => (if y373.length + t363.length < 140737488355328 then (some ((y373 ++ t363), 0)) else (none))) else (none)))))) = some (r1, r2) := H
  have A6 := Aside0.mk A60
  clear A60
  obtain ⟨y360, hy360⟩ : ∃ y_ : List (List Int), y_ = (([y348, t351, t354, t357, l0_3] : List (List Int))) := ⟨_, rfl⟩
  replace H : ((bytes_Join.f y360 ([] : List Int)).bind fun t363 => ((some (([167, 92] : List Int) : List Int)).bind fun y366 => ((wire_Crc.f k t363).bind fun t369 => ((wire_Four.f t369).bind fun t370 => (if y366.length + t370.length < 140737488355328 then ((some (y366 ++ t370 : List Int)).bind fun y373 => (if y373.length + t363.length < 140737488355328 then (some ((y373 ++ t363), 0)) else (none))) else (none)))))) = some (r1, r2) := by first | (rw [hy360]; with_reducible exact H) | (have H2_ := (Option.bind_some _ _).symm.trans H; rw [hy360]; with_reducible exact H2_) | (have H2_ := (Option.bind_some _ _).symm.trans H; with_reducible exact H2_) | with_reducible exact H | (rw [hy360]; exact H) | exact H
  have Ny360 := Aside0.mk hy360
  clear hy360
  replace H := Option.bind_eq_some_iff.mp H
  obtain ⟨t363, A70, H⟩ := H
  replace H : ((some (([167, 92] : List Int) : List Int)).bind fun y366 => ((wire_Crc.f k t363).bind fun t369 => ((wire_Four.f t369).bind fun t370 => (if y366.length + t370.length < 140737488355328 then ((some (y366 ++ t370 : List Int)).bind fun y373 => (if y373.length + t363.length < 140737488355328 then (some ((y373 ++ t363), 0)) else (none))) else (none))))) = some (r1, r2) := H
  have A7 := Aside0.mk A70
  clear A70
  obtain ⟨y366, hy366⟩ : ∃ y_ : List Int, y_ = (([167, 92] : List Int)) := ⟨_, rfl⟩
  replace H : ((wire_Crc.f k t363).bind fun t369 => ((wire_Four.f t369).bind fun t370 => (if y366.length + t370.length < 140737488355328 then ((some (y366 ++ t370 : List Int)).bind fun y373 => (if y373.length + t363.length < 140737488355328 then (some ((y373 ++ t363), 0)) else (none))) else (none)))) = some (r1, r2) := by first | (rw [hy366]; with_reducible exact H) | (have H2_ := (Option.bind_some _ _).symm.trans H; rw [hy366]; with_reducible exact H2_) | (have H2_ := (Option.bind_some _ _).symm.trans H; with_reducible exact H2_) | with_reducible exact H | (rw [hy366]; exact H) | exact H
  have Ny366 := Aside0.mk hy366
  clear hy366
  replace H := Option.bind_eq_some_iff.mp H
  obtain ⟨t369, A80, H⟩ := H
  replace H : ((wire_Four.f t369).bind fun t370 => (if y366.length + t370.length < 140737488355328 then ((some (y366 ++ t370 : List Int)).bind fun y373 => (if y373.length + t363.length < 140737488355328 then (some ((y373 ++ t363), 0)) else (none))) else (none))) = some (r1, r2) := H
  have A8 := Aside0.mk A80
  clear A80
  replace H := Option.bind_eq_some_iff.mp H
  obtain ⟨t370, A90, H⟩ := H
  replace H : (if y366.length + t370.length < 140737488355328 then ((some (y366 ++ t370 : List Int)).bind fun y373 => (if y373.length + t363.length < 140737488355328 then (some ((y373 ++ t363), 0)) else (none))) else (none)) = some (r1, r2) := H
  have A9 := Aside0.mk A90
  clear A90
  by_cases c10 : y366.length + t370.length < 140737488355328
  ·rw [if_pos c10] at H
   have LMc10 := Aside0.mk c10
   clear c10
   obtain ⟨y373, hy373⟩ : ∃ y_ : List Int, y_ = (y366 ++ t370) := ⟨_, rfl⟩
   replace H : (if y373.length + t363.length < 140737488355328 then (some ((y373 ++ t363), 0)) else (none)) = some (r1, r2) := by first | (rw [hy373]; with_reducible exact H) | (have H2_ := (Option.bind_some _ _).symm.trans H; rw [hy373]; with_reducible exact H2_) | (have H2_ := (Option.bind_some _ _).symm.trans H; with_reducible exact H2_) | with_reducible exact H | (rw [hy373]; exact H) | exact H
   have Ny373 := Aside0.mk hy373
   clear hy373
   by_cases c11 : y373.length + t363.length < 140737488355328
   ·rw [if_pos c11] at H
    have LMc11 := Aside0.mk c11
    clear c11
    obtain ⟨y376, hy376⟩ : ∃ y_ : List Int, y_ = (y373 ++ t363) := ⟨_, rfl⟩
    replace H : (some (y376, 0)) = some (r1, r2) := by first | (rw [hy376]; with_reducible exact H) | (have H2_ := (Option.bind_some _ _).symm.trans H; rw [hy376]; with_reducible exact H2_) | (have H2_ := (Option.bind_some _ _).symm.trans H; with_reducible exact H2_) | with_reducible exact H | (rw [hy376]; exact H) | exact H
    have Ny376 := Aside0.mk hy376
    clear hy376
    simp only [Option.some.injEq, Prod.mk.injEq] at H
    obtain ⟨rfl, rfl⟩ := H
    go_enter Tryd.func43, Tryd.ntmps43
    try go_wp2_with (first | ((with_reducible refine gate_dst (N := 1) rfl ?_); refine box_event ?hg (N := 1) ?hd (cs := #[.int .i64 a0_0, .int .u64 a0_1, .int .u64 a0_2, .slice A0_3 l0_3.length c0_3]) (t := 88) ?hr ?_; (case hd => rfl); (case hg => rfl); (case hr => first | (go_simp; done) | (go_simp; rfl)); intro gb346 hg w12 hbox hb; have n0_ := Aside0.mk (Kd.V_below (Kd.V_elderB (by (with_reducible repeat (first | apply Kd.V_alloc | apply Kd.V_drewN | apply Kd.V_drew)); exact HO0_3.out) gb346 (Nat.le_of_eq hg.symm)) hb); have n1_ := Aside0.mk (below_step (by repeat (first | (with_reducible first | exact HB.out | apply below_alloc | apply pw_below_drewN | apply below_drew1) | exact HB.out)) hb); have n2_ := Aside0.mk (hbox); have n3_ := Aside0.mk ((by rw [hg]; exact (below_size (by repeat (first | (with_reducible first | exact HB.out | apply below_alloc | apply pw_below_drewN | apply below_drew1) | exact HB.out))) : w.heap.size ≤ gb346)); have n4_ := Aside0.mk ((by rw [hg]; exact (below_size (by repeat (first | (with_reducible first | exact HB.out | apply below_alloc | apply pw_below_drewN | apply below_drew1) | exact HB.out))) : w.heap.size ≤ gb346)); clear HO0_3; clear HB; have HO0_3 := n0_; have HB := n1_; have BK346 := n2_; have GW346 := n3_; have GE346 := n4_; clear n0_ n1_ n2_ n3_ n4_; clear hb hbox hg; have hcz13_0 : w12.cell? ⟨gb346, 0, none⟩ = some (.int .i64 a0_0) := (blk_cell BK346.out 0).trans rfl; have hcz13_1 : w12.cell? ⟨gb346, 1, none⟩ = some (.int .u64 a0_1) := (blk_cell BK346.out 1).trans rfl; have hcz13_2 : w12.cell? ⟨gb346, 2, none⟩ = some (.int .u64 a0_2) := (blk_cell BK346.out 2).trans rfl; have hcz13_3 : w12.cell? ⟨gb346, 3, none⟩ = some (.slice A0_3 l0_3.length c0_3) := (blk_cell BK346.out 3).trans rfl; have hfz13_0 := blk_frozen BK346.out 0; have hfz13_1 := blk_frozen BK346.out 1; have hfz13_2 := blk_frozen BK346.out 2; have hfz13_3 := blk_frozen BK346.out 3) | ((with_reducible refine gate_callee (f := 79) rfl ?_); refine goesL_ (some 6) rfl rfl Tryd.func79 (by kernel_rfl) rfl #[.agg #[.int .i64 a0_0, .int .u64 a0_1, .int .u64 a0_2, .slice A0_3 l0_3.length c0_3]] rfl (by (try simp only [List.map_toArray, List.map_cons, List.map_nil]); first | done | rfl | (simp only [List.length_drop, List.length_take]; rfl)) ?_; (with_reducible refine (rec_May.calls a0_0 a0_1 a0_2 _ _ l0_3 true _ ?side1 ?side2 A2.out).mono ?_); (case side1 => repeat (first | exact (Kd.V_reads' HO0_3.out).2.2 | (with_reducible refine Kd.C_alloc ?_ _) | (with_reducible refine Kd.C_drewN ?_ _) | (with_reducible refine Kd.C_drew ?_))); (case side2 => exact (Kd.V_reads' HO0_3.out).2.1); rintro e w14 ⟨rfl, hb⟩; refine ⟨_, rfl, ?_⟩; have n0_ := Aside0.mk (Kd.V_below (by (with_reducible repeat (first | apply Kd.V_alloc | apply Kd.V_drewN | apply Kd.V_drew)); exact HO0_3.out) hb); have n1_ := Aside0.mk (blk_below (g := gb346) (o := .cells #[.int .i64 a0_0, .int .u64 a0_1, .int .u64 a0_2, .slice A0_3 l0_3.length c0_3] 88 (0, 0)) (by (with_reducible repeat (first | refine blk_drewN ?_ _ | refine blk_drew ?_ | refine blk_alloc ?_ _)); exact BK346.out) hb); have n2_ := Aside0.mk (below_step (by repeat (first | (with_reducible first | exact HB.out | apply below_alloc | apply pw_below_drewN | apply below_drew1 | refine below_set ?_ GE346.out) | exact HB.out)) hb); clear HO0_3; clear BK346; clear HB; have HO0_3 := n0_; have BK346 := n1_; have HB := n2_; clear n0_ n1_ n2_; (try clear hb); (try clear hb2); (try clear hk); (try clear hi)))
    have n0_ := Aside0.mk (Kd.V_drew HO0_3.out)
    have n1_ := Aside0.mk (blk_drew BK346.out)
    have n2_ := Aside0.mk (below_drew1 HB.out)
    clear HO0_3
    clear BK346
    clear HB
    have HO0_3 := n0_
    have BK346 := n1_
    have HB := n2_
    clear n0_ n1_ n2_
    refine start_ (n := 20) (S := fun w' => True) (ds := []) #[false, false, false, false, false, false, false, false, false, false, false, false, false, false, false, false, false, false, false, false] (by kernel_rfl) rfl rfl trivial (fun hHeld => ?_); refine with_tabW rec_Encode.tab3 rec_Encode.bits3 (fun HT_ HW_ => ?_)
    generalize w14.drew = w15 at HO0_3 BK346 HB hHeld ⊢
    refine pure_ (i := 0) (N := some 8) (v := ?_) (a' := ?_) #[true, false, false, false, false, false, false, false, false, false, false, false, false, false, false, false, false, false, false, false] rfl rfl (any_of HT_.out (by kernel_rfl)) (fun _ _ _ h => h) (Or.inl ⟨by rfl, ?_⟩) ?_ ?_
    rotate_left
    ·intro w'
     go_simp
     with_reducible rfl
    rotate_left
    ·simp only [Act.put, List.setIfInBounds_toArray, List.set_cons_zero, List.set_cons_succ, i64_w, i32_w]
     rfl
    refine pure_ (i := 4) (N := some 12) (v := ?_) (a' := ?_) #[true, false, false, false, true, false, false, false, false, false, false, false, false, false, false, false, false, false, false, false] rfl rfl (any_of HT_.out (by kernel_rfl)) (fun _ _ _ h => h) (Or.inl ⟨by rfl, ?_⟩) ?_ ?_
    rotate_left
    ·intro w'
     go_simp
     with_reducible rfl
    rotate_left
    ·simp only [Act.put, List.setIfInBounds_toArray, List.set_cons_zero, List.set_cons_succ, i64_w, i32_w]
     rfl
    refine pure_ (i := 7) (N := some 15) (v := ?_) (a' := ?_) #[true, false, false, false, true, false, false, true, false, false, false, false, false, false, false, false, false, false, false, false] rfl rfl (any_of HT_.out (by kernel_rfl)) (fun _ _ _ h => h) (Or.inl ⟨by rfl, ?_⟩) ?_ ?_
    rotate_left
    ·intro w'
     go_simp
     with_reducible rfl
    rotate_left
    ·simp only [Act.put, List.setIfInBounds_toArray, List.set_cons_zero, List.set_cons_succ, i64_w, i32_w]
     rfl
    refine pure_ (i := 10) (N := some 18) (v := ?_) (a' := ?_) #[true, false, false, false, true, false, false, true, false, false, true, false, false, false, false, false, false, false, false, false] rfl rfl (any_of HT_.out (by kernel_rfl)) (fun _ _ _ h => h) (Or.inl ⟨by rfl, ?_⟩) ?_ ?_
    rotate_left
    ·intro w'
     go_simp
     with_reducible rfl
    rotate_left
    ·simp only [Act.put, List.setIfInBounds_toArray, List.set_cons_zero, List.set_cons_succ, i64_w, i32_w]
     rfl
    refine pure_ (i := 15) (N := some 23) (v := ?_) (a' := ?_) #[true, false, false, false, true, false, false, true, false, false, true, false, false, false, false, true, false, false, false, false] rfl rfl (any_of HT_.out (by kernel_rfl)) (fun _ _ _ h => h) (Or.inl ⟨by rfl, ?_⟩) ?_ ?_
    rotate_left
    ·intro w'
     go_simp
     with_reducible rfl
    rotate_left
    ·simp only [Act.put, List.setIfInBounds_toArray, List.set_cons_zero, List.set_cons_succ, i64_w, i32_w]
     rfl
    refine inv_at [1, 2, 3, 5, 6, 8, 9, 11, 12, 13, 14, 16, 17, 18, 19] (fun a0_ b a w' => ∃ (v349 : Value) (v352 : Value) (v355 : Value) (v358 : Value) (v361 : Value) (v364 : Value) (m19_ : Value), a = putSel a0_ b [(1, 9, .int .i64 a0_0), (2, 10, .int .u8 ((a0_0) % 256)), (3, 11, v349), (5, 13, .int .u64 a0_1), (6, 14, v352), (8, 16, .int .u64 a0_2), (9, 17, v355), (11, 19, .slice A0_3 l0_3.length c0_3), (12, 20, .int .i64 (l0_3.length : Int)), (13, 21, .int .u64 (IntKind.u64.wrap ((l0_3.length : Int)))), (14, 22, v358), (16, 24, .slice A0_3 l0_3.length c0_3), (17, 25, v361), (18, 26, v364), (19, 4, m19_)] ∧ (Kd.V (Kd.int .u8) 5 w' w.heap.size (fun k_ => (P0_3_ k_ ∨ w.heap.size ≤ k_) ∧ k_ ≠ gb346) (.slice A0_3 l0_3.length c0_3) l0_3) ∧ (w'.heap[gb346]? = some (.cells #[.int .i64 a0_0, .int .u64 a0_1, .int .u64 a0_2, .slice A0_3 l0_3.length c0_3] 88 (0, 0))) ∧ (Below w.heap.size w w') ∧ (b 3 = true → b 17 = false → Kd.R (Kd.int .u8) 5 w' w.heap.size (fun k_ => (w.heap.size ≤ k_)) v349 y348) ∧ (b 6 = true → b 17 = false → Kd.R (Kd.int .u8) 5 w' w.heap.size (fun k_ => (w.heap.size ≤ k_)) v352 t351) ∧ (b 9 = true → b 17 = false → Kd.R (Kd.int .u8) 5 w' w.heap.size (fun k_ => (w.heap.size ≤ k_)) v355 t354) ∧ (b 14 = true → b 17 = false → Kd.R (Kd.int .u8) 5 w' w.heap.size (fun k_ => (w.heap.size ≤ k_)) v358 t357) ∧ (b 17 = true → Kd.N (Kd.slice 5 (Kd.int .u8)) 64 w' w.heap.size (fun k_ => (P0_3_ k_ ∨ w.heap.size ≤ k_) ∧ k_ ≠ gb346) v361 y360) ∧ (b 18 = true → Kd.V (Kd.int .u8) 5 w' w.heap.size (fun k_ => (P0_3_ k_ ∨ w.heap.size ≤ k_) ∧ k_ ≠ gb346) v364 t363) ∧ (b 19 = true → (m19_ : Value) = v364)) HT_.out HW_.out (by kernel_rfl) (by kernel_rfl) ?_ ?_ ?_
    ·exact ⟨.bool false, .bool false, .bool false, .bool false, .bool false, .bool false, .bool false, by simp only [putSel, Bool.false_eq_true, if_false], HO0_3.out, BK346.out, HB.out, fun h_ => absurd h_ (by decide), fun h_ => absurd h_ (by decide), fun h_ => absurd h_ (by decide), fun h_ => absurd h_ (by decide), fun h_ => absurd h_ (by decide), fun h_ => absurd h_ (by decide), fun h_ => absurd h_ (by decide)⟩
    ·skip
     clear BK346 HB HO0_3
     refine steps_cons ?_ ?_
     ·rintro b a w' ⟨v349, v352, v355, v358, v361, v364, m19_, ha, Q_HO0_3, Q_BK346, Q_HB, Q_HO350, Q_HO353, Q_HO356, Q_HO359, Q_HO362, Q_HO365, Q_X19_⟩ hb_ hon hoff
      refine ⟨_, rfl, fun K hK => ?_⟩
      have e8 : a.tmps[8]? = some (.pointer (some ⟨gb346, 0, none⟩)) := by rw [ha]; exact (putSel_off rfl).trans rfl
      replace ha := Aside0.mk ha
      have HO0_3 := Aside0.mk Q_HO0_3
      have BK346 := Aside0.mk Q_BK346
      have HB := Aside0.mk Q_HB
      have hc0_ : w'.cell? ⟨gb346, 0, none⟩ = some (.int .i64 a0_0) := (blk_cell BK346.out 0).trans rfl
      have hc1_ : w'.cell? ⟨gb346, 1, none⟩ = some (.int .u64 a0_1) := (blk_cell BK346.out 1).trans rfl
      have hc2_ : w'.cell? ⟨gb346, 2, none⟩ = some (.int .u64 a0_2) := (blk_cell BK346.out 2).trans rfl
      have hc3_ : w'.cell? ⟨gb346, 3, none⟩ = some (.slice A0_3 l0_3.length c0_3) := (blk_cell BK346.out 3).trans rfl
      refine value_ (w1 := w') (v := .int .i64 a0_0) (by rfl) rfl ?_ ?_
      ·go_simp
       (try simp only [i64_w])
       try rfl
      refine hK.out _ _ ⟨v349, v352, v355, v358, v361, v364, m19_, (by rw [ha.out]; exact putSel_upk 0 hb_ rfl rfl rfl), Q_HO0_3, Q_BK346, Q_HB, fun h0_ _ => absurd ((hoff 3 (by kernel_rfl)).symm.trans h0_) (by decide), Q_HO353, Q_HO356, Q_HO359, fun h0_ => absurd ((hoff 17 (by kernel_rfl)).symm.trans h0_) (by decide), fun h0_ => absurd ((hoff 18 (by kernel_rfl)).symm.trans h0_) (by decide), fun h0_ => absurd ((hoff 19 (by kernel_rfl)).symm.trans h0_) (by decide)⟩
     refine steps_cons ?_ ?_
     ·rintro b a w' ⟨v349, v352, v355, v358, v361, v364, m19_, ha, Q_HO0_3, Q_BK346, Q_HB, Q_HO350, Q_HO353, Q_HO356, Q_HO359, Q_HO362, Q_HO365, Q_X19_⟩ hb_ hon hoff
      refine ⟨_, rfl, fun K hK => ?_⟩
      have e9 : a.tmps[9]? = some (.int .i64 a0_0) := by rw [ha]; exact putSel_on (e := (1, 9, .int .i64 a0_0)) 0 rfl rfl (hon 1 (by kernel_rfl)) rfl
      replace ha := Aside0.mk ha
      have HO0_3 := Aside0.mk Q_HO0_3
      have BK346 := Aside0.mk Q_BK346
      have HB := Aside0.mk Q_HB
      refine value_ (w1 := w') (v := .int .u8 ((a0_0) % 256)) (by rfl) rfl ?_ ?_
      ·go_simp
       (try simp only [i64_w])
       try rfl
      refine hK.out _ _ ⟨v349, v352, v355, v358, v361, v364, m19_, (by rw [ha.out]; exact putSel_upk 1 hb_ rfl rfl rfl), Q_HO0_3, Q_BK346, Q_HB, fun h0_ _ => absurd ((hoff 3 (by kernel_rfl)).symm.trans h0_) (by decide), Q_HO353, Q_HO356, Q_HO359, fun h0_ => absurd ((hoff 17 (by kernel_rfl)).symm.trans h0_) (by decide), fun h0_ => absurd ((hoff 18 (by kernel_rfl)).symm.trans h0_) (by decide), fun h0_ => absurd ((hoff 19 (by kernel_rfl)).symm.trans h0_) (by decide)⟩
     refine steps_cons ?_ ?_
     ·rintro b a w' ⟨v349, v352, v355, v358, v361, v364, m19_, ha, Q_HO0_3, Q_BK346, Q_HB, Q_HO350, Q_HO353, Q_HO356, Q_HO359, Q_HO362, Q_HO365, Q_X19_⟩ hb_ hon hoff
      refine ⟨_, rfl, fun K hK => ?_⟩
      have e10 : a.tmps[10]? = some (.int .u8 ((a0_0) % 256)) := by rw [ha]; exact putSel_on (e := (2, 10, .int .u8 ((a0_0) % 256))) 1 rfl rfl (hon 2 (by kernel_rfl)) rfl
      replace ha := Aside0.mk ha
      have HO0_3 := Aside0.mk Q_HO0_3
      have BK346 := Aside0.mk Q_BK346
      have HB := Aside0.mk Q_HB
      refine Kd.R_lit_step (Kd.int .u8) _ 5 ?hg (N := 11) ?hd (xs := ([(a0_0) % 256] : List Int)) (inner := [.int .u8 ((a0_0) % 256)]) (ok := fun _ => True) (okp := fun _ => True) ?hr ?hp (fun _ hk => (by first | exact hk | (simp only [hk, ne_eq, not_false_eq_true, and_self, true_and, and_true, or_true, true_or]; done))) trivial (Below.refl _ _) (Nat.le_refl _) (by simp) ?_; (case hd => rfl); (case hg => rfl); (case hr => first | (go_simp; done) | (go_simp; rfl)); (case hp => exact (Reps.one (show Kd.M (Kd.int .u8) _ _ _ ((a0_0) % 256) [.int .u8 ((a0_0) % 256)] from rfl) (Reps.none _ _)))
      intro v349 w16 ho17 hb hg_ hnew_
      clear hg_ hnew_
      (first | rw [← Ny348.out] at ho17 | (simp only [Int.reduceToNat] at ho17; rw [← Ny348.out] at ho17))
      have n0_ := Aside0.mk (Kd.V_elder' (by (with_reducible repeat (first | apply Kd.V_alloc | apply Kd.V_drewN | apply Kd.V_drew)); exact HO0_3.out) (Kd.R_base ho17) hb)
      have n1_ := Aside0.mk (Kd.R_lower (Kd.R_newM (M := fun k_ => (w.heap.size ≤ k_)) ho17 (below_size (by repeat (first | (with_reducible first | exact HB.out | apply below_alloc | apply pw_below_drewN | apply below_drew1 | refine below_set ?_ GE346.out) | exact HB.out))) (fun k_ h_ => h_)) (below_size (by repeat (first | (with_reducible first | exact HB.out | apply below_alloc | apply pw_below_drewN | apply below_drew1 | refine below_set ?_ GE346.out) | exact HB.out))))
      have n2_ := Aside0.mk (blk_below (g := gb346) (o := .cells #[.int .i64 a0_0, .int .u64 a0_1, .int .u64 a0_2, .slice A0_3 l0_3.length c0_3] 88 (0, 0)) (by (with_reducible repeat (first | refine blk_drewN ?_ _ | refine blk_drew ?_ | refine blk_alloc ?_ _)); exact BK346.out) hb)
      have n3_ := Aside0.mk (below_step (by repeat (first | (with_reducible first | exact HB.out | apply below_alloc | apply pw_below_drewN | apply below_drew1 | refine below_set ?_ GE346.out) | exact HB.out)) hb)
      have z_HO353 := fun (h0_ : b 6 = true) (h1_ : b 17 = false) => (show Kd.R (Kd.int .u8) 5 w16 w.heap.size (fun k_ => (w.heap.size ≤ k_)) v352 t351 from by first | exact (Kd.R_elder' (by (with_reducible repeat (first | apply Kd.R_alloc | apply Kd.R_drewN | apply Kd.R_drew)); exact (Q_HO353 h0_ h1_)) (Kd.R_base ho17) hb) | exact Kd.R_mono (Kd.R_elder' (by (with_reducible repeat (first | apply Kd.R_alloc | apply Kd.R_drewN | apply Kd.R_drew)); exact (Q_HO353 h0_ h1_)) (Kd.R_base ho17) hb) (fun _ h_ => by first | trivial | exact h_ | exact h_.1))
      have z_HO356 := fun (h0_ : b 9 = true) (h1_ : b 17 = false) => (show Kd.R (Kd.int .u8) 5 w16 w.heap.size (fun k_ => (w.heap.size ≤ k_)) v355 t354 from by first | exact (Kd.R_elder' (by (with_reducible repeat (first | apply Kd.R_alloc | apply Kd.R_drewN | apply Kd.R_drew)); exact (Q_HO356 h0_ h1_)) (Kd.R_base ho17) hb) | exact Kd.R_mono (Kd.R_elder' (by (with_reducible repeat (first | apply Kd.R_alloc | apply Kd.R_drewN | apply Kd.R_drew)); exact (Q_HO356 h0_ h1_)) (Kd.R_base ho17) hb) (fun _ h_ => by first | trivial | exact h_ | exact h_.1))
      have z_HO359 := fun (h0_ : b 14 = true) (h1_ : b 17 = false) => (show Kd.R (Kd.int .u8) 5 w16 w.heap.size (fun k_ => (w.heap.size ≤ k_)) v358 t357 from by first | exact (Kd.R_elder' (by (with_reducible repeat (first | apply Kd.R_alloc | apply Kd.R_drewN | apply Kd.R_drew)); exact (Q_HO359 h0_ h1_)) (Kd.R_base ho17) hb) | exact Kd.R_mono (Kd.R_elder' (by (with_reducible repeat (first | apply Kd.R_alloc | apply Kd.R_drewN | apply Kd.R_drew)); exact (Q_HO359 h0_ h1_)) (Kd.R_base ho17) hb) (fun _ h_ => by first | trivial | exact h_ | exact h_.1))
      clear HO0_3
      clear BK346
      clear HB
      have HO0_3 := n0_
      have HO350 := n1_
      have BK346 := n2_
      have HB := n3_
      clear n0_ n1_ n2_ n3_
      clear hb ho17
      refine hK.out _ _ ⟨v349, v352, v355, v358, v361, v364, m19_, (by rw [ha.out]; exact putSel_upk 2 hb_ rfl rfl rfl), (by (with_reducible repeat (first | apply Kd.V_alloc | apply Kd.V_drewN | apply Kd.V_drew)); exact Kd.V_mono HO0_3.out (fun _ hk => (by first | exact hk | (simp only [hk, ne_eq, not_false_eq_true, and_self, true_and, and_true, or_true, true_or]; done)))), (by (with_reducible repeat (first | refine blk_drewN ?_ _ | refine blk_drew ?_ | refine blk_alloc ?_ _)); exact BK346.out), (by repeat (first | (with_reducible first | exact HB.out | apply below_alloc | apply pw_below_drewN | apply below_drew1 | refine below_set ?_ GE346.out) | exact HB.out)), fun _ _ => (by (with_reducible repeat (first | apply Kd.R_alloc | apply Kd.R_drewN | apply Kd.R_drew)); exact Kd.R_mono HO350.out (fun _ hk => (by first | exact hk | (simp only [hk, ne_eq, not_false_eq_true, and_self, true_and, and_true, or_true, true_or]; done)))), z_HO353, z_HO356, z_HO359, fun h0_ => absurd ((hoff 17 (by kernel_rfl)).symm.trans h0_) (by decide), fun h0_ => absurd ((hoff 18 (by kernel_rfl)).symm.trans h0_) (by decide), fun h0_ => absurd ((hoff 19 (by kernel_rfl)).symm.trans h0_) (by decide)⟩
     refine steps_cons ?_ ?_
     ·rintro b a w' ⟨v349, v352, v355, v358, v361, v364, m19_, ha, Q_HO0_3, Q_BK346, Q_HB, Q_HO350, Q_HO353, Q_HO356, Q_HO359, Q_HO362, Q_HO365, Q_X19_⟩ hb_ hon hoff
      refine ⟨_, rfl, fun K hK => ?_⟩
      have e12 : a.tmps[12]? = some (.pointer (some ⟨gb346, 1, none⟩)) := by rw [ha]; exact (putSel_off rfl).trans rfl
      replace ha := Aside0.mk ha
      have HO0_3 := Aside0.mk Q_HO0_3
      have BK346 := Aside0.mk Q_BK346
      have HB := Aside0.mk Q_HB
      have hc0_ : w'.cell? ⟨gb346, 0, none⟩ = some (.int .i64 a0_0) := (blk_cell BK346.out 0).trans rfl
      have hc1_ : w'.cell? ⟨gb346, 1, none⟩ = some (.int .u64 a0_1) := (blk_cell BK346.out 1).trans rfl
      have hc2_ : w'.cell? ⟨gb346, 2, none⟩ = some (.int .u64 a0_2) := (blk_cell BK346.out 2).trans rfl
      have hc3_ : w'.cell? ⟨gb346, 3, none⟩ = some (.slice A0_3 l0_3.length c0_3) := (blk_cell BK346.out 3).trans rfl
      refine value_ (w1 := w') (v := .int .u64 a0_1) (by rfl) rfl ?_ ?_
      ·go_simp
       (try simp only [i64_w])
       try rfl
      refine hK.out _ _ ⟨v349, v352, v355, v358, v361, v364, m19_, (by rw [ha.out]; exact putSel_upk 3 hb_ rfl rfl rfl), Q_HO0_3, Q_BK346, Q_HB, Q_HO350, fun h0_ _ => absurd ((hoff 6 (by kernel_rfl)).symm.trans h0_) (by decide), fun h0_ _ => absurd ((hoff 9 (by kernel_rfl)).symm.trans h0_) (by decide), fun h0_ _ => absurd ((hoff 14 (by kernel_rfl)).symm.trans h0_) (by decide), fun h0_ => absurd ((hoff 17 (by kernel_rfl)).symm.trans h0_) (by decide), fun h0_ => absurd ((hoff 18 (by kernel_rfl)).symm.trans h0_) (by decide), fun h0_ => absurd ((hoff 19 (by kernel_rfl)).symm.trans h0_) (by decide)⟩
     refine steps_cons ?_ ?_
     ·rintro b a w' ⟨v349, v352, v355, v358, v361, v364, m19_, ha, Q_HO0_3, Q_BK346, Q_HB, Q_HO350, Q_HO353, Q_HO356, Q_HO359, Q_HO362, Q_HO365, Q_X19_⟩ hb_ hon hoff
      refine ⟨_, rfl, fun K hK => ?_⟩
      have e13 : a.tmps[13]? = some (.int .u64 a0_1) := by rw [ha]; exact putSel_on (e := (5, 13, .int .u64 a0_1)) 3 rfl rfl (hon 5 (by kernel_rfl)) rfl
      replace ha := Aside0.mk ha
      have HO0_3 := Aside0.mk Q_HO0_3
      have BK346 := Aside0.mk Q_BK346
      have HB := Aside0.mk Q_HB
      refine goes_ Tryd.func81 (by kernel_rfl) rfl #[.int .u64 a0_1] (by rfl) rfl rfl (by first | (simp only [List.map_toArray, List.map_cons, List.map_nil, Act.eval, Array.getD_eq_getD_getElem?, Option.getD_some, e13]; done) | (simp only [List.map_toArray, List.map_cons, List.map_nil, Act.eval, Array.getD_eq_getD_getElem?, Option.getD_some, e13]; rfl)) ?_
      with_reducible refine (wire_Var.calls k a0_1 t351 _ A4.out).mono ?_
      rintro e w16 ⟨v352, rfl, ho0, hb⟩
      refine ⟨_, rfl, ?_⟩
      have n0_ := Aside0.mk (Kd.V_elder' (by (with_reducible repeat (first | apply Kd.V_alloc | apply Kd.V_drewN | apply Kd.V_drew)); exact HO0_3.out) (Kd.R_base ho0) hb)
      have n1_ := Aside0.mk (Kd.R_lower (Kd.R_newM (M := fun k_ => (w.heap.size ≤ k_)) ho0 (below_size (by repeat (first | (with_reducible first | exact HB.out | apply below_alloc | apply pw_below_drewN | apply below_drew1 | refine below_set ?_ GE346.out) | exact HB.out))) (fun k_ h_ => h_)) (below_size (by repeat (first | (with_reducible first | exact HB.out | apply below_alloc | apply pw_below_drewN | apply below_drew1 | refine below_set ?_ GE346.out) | exact HB.out))))
      have n2_ := Aside0.mk (blk_below (g := gb346) (o := .cells #[.int .i64 a0_0, .int .u64 a0_1, .int .u64 a0_2, .slice A0_3 l0_3.length c0_3] 88 (0, 0)) (by (with_reducible repeat (first | refine blk_drewN ?_ _ | refine blk_drew ?_ | refine blk_alloc ?_ _)); exact BK346.out) hb)
      have n3_ := Aside0.mk (below_step (by repeat (first | (with_reducible first | exact HB.out | apply below_alloc | apply pw_below_drewN | apply below_drew1 | refine below_set ?_ GE346.out) | exact HB.out)) hb)
      have z_HO350 := fun (h0_ : b 3 = true) (h1_ : b 17 = false) => (show Kd.R (Kd.int .u8) 5 w16 w.heap.size (fun k_ => (w.heap.size ≤ k_)) v349 y348 from by first | exact (Kd.R_elder' (by (with_reducible repeat (first | apply Kd.R_alloc | apply Kd.R_drewN | apply Kd.R_drew)); exact (Q_HO350 h0_ h1_)) (Kd.R_base ho0) hb) | exact Kd.R_mono (Kd.R_elder' (by (with_reducible repeat (first | apply Kd.R_alloc | apply Kd.R_drewN | apply Kd.R_drew)); exact (Q_HO350 h0_ h1_)) (Kd.R_base ho0) hb) (fun _ h_ => by first | trivial | exact h_ | exact h_.1))
      clear HO0_3
      clear BK346
      clear HB
      have HO0_3 := n0_
      have HO353 := n1_
      have BK346 := n2_
      have HB := n3_
      clear n0_ n1_ n2_ n3_
      (try clear hb)
      (try clear hb2)
      (try clear hk)
      (try clear hi)
      (try clear ho0)
      refine hK.out _ _ ⟨v349, v352, v355, v358, v361, v364, m19_, (by rw [ha.out]; exact putSel_upk 4 hb_ rfl rfl rfl), (by (with_reducible repeat (first | apply Kd.V_alloc | apply Kd.V_drewN | apply Kd.V_drew)); exact Kd.V_mono HO0_3.out (fun _ hk => (by first | exact hk | (simp only [hk, ne_eq, not_false_eq_true, and_self, true_and, and_true, or_true, true_or]; done)))), (by (with_reducible repeat (first | refine blk_drewN ?_ _ | refine blk_drew ?_ | refine blk_alloc ?_ _)); exact BK346.out), (by repeat (first | (with_reducible first | exact HB.out | apply below_alloc | apply pw_below_drewN | apply below_drew1 | refine below_set ?_ GE346.out) | exact HB.out)), z_HO350, fun _ _ => (by (with_reducible repeat (first | apply Kd.R_alloc | apply Kd.R_drewN | apply Kd.R_drew)); exact Kd.R_mono HO353.out (fun _ hk => (by first | exact hk | (simp only [hk, ne_eq, not_false_eq_true, and_self, true_and, and_true, or_true, true_or]; done)))), fun h0_ _ => absurd ((hoff 9 (by kernel_rfl)).symm.trans h0_) (by decide), fun h0_ _ => absurd ((hoff 14 (by kernel_rfl)).symm.trans h0_) (by decide), fun h0_ => absurd ((hoff 17 (by kernel_rfl)).symm.trans h0_) (by decide), fun h0_ => absurd ((hoff 18 (by kernel_rfl)).symm.trans h0_) (by decide), fun h0_ => absurd ((hoff 19 (by kernel_rfl)).symm.trans h0_) (by decide)⟩
     refine steps_cons ?_ ?_
     ·rintro b a w' ⟨v349, v352, v355, v358, v361, v364, m19_, ha, Q_HO0_3, Q_BK346, Q_HB, Q_HO350, Q_HO353, Q_HO356, Q_HO359, Q_HO362, Q_HO365, Q_X19_⟩ hb_ hon hoff
      refine ⟨_, rfl, fun K hK => ?_⟩
      have e15 : a.tmps[15]? = some (.pointer (some ⟨gb346, 2, none⟩)) := by rw [ha]; exact (putSel_off rfl).trans rfl
      replace ha := Aside0.mk ha
      have HO0_3 := Aside0.mk Q_HO0_3
      have BK346 := Aside0.mk Q_BK346
      have HB := Aside0.mk Q_HB
      have hc0_ : w'.cell? ⟨gb346, 0, none⟩ = some (.int .i64 a0_0) := (blk_cell BK346.out 0).trans rfl
      have hc1_ : w'.cell? ⟨gb346, 1, none⟩ = some (.int .u64 a0_1) := (blk_cell BK346.out 1).trans rfl
      have hc2_ : w'.cell? ⟨gb346, 2, none⟩ = some (.int .u64 a0_2) := (blk_cell BK346.out 2).trans rfl
      have hc3_ : w'.cell? ⟨gb346, 3, none⟩ = some (.slice A0_3 l0_3.length c0_3) := (blk_cell BK346.out 3).trans rfl
      refine value_ (w1 := w') (v := .int .u64 a0_2) (by rfl) rfl ?_ ?_
      ·go_simp
       (try simp only [i64_w])
       try rfl
      refine hK.out _ _ ⟨v349, v352, v355, v358, v361, v364, m19_, (by rw [ha.out]; exact putSel_upk 5 hb_ rfl rfl rfl), Q_HO0_3, Q_BK346, Q_HB, Q_HO350, Q_HO353, fun h0_ _ => absurd ((hoff 9 (by kernel_rfl)).symm.trans h0_) (by decide), fun h0_ _ => absurd ((hoff 14 (by kernel_rfl)).symm.trans h0_) (by decide), fun h0_ => absurd ((hoff 17 (by kernel_rfl)).symm.trans h0_) (by decide), fun h0_ => absurd ((hoff 18 (by kernel_rfl)).symm.trans h0_) (by decide), fun h0_ => absurd ((hoff 19 (by kernel_rfl)).symm.trans h0_) (by decide)⟩
     refine steps_cons ?_ ?_
     ·rintro b a w' ⟨v349, v352, v355, v358, v361, v364, m19_, ha, Q_HO0_3, Q_BK346, Q_HB, Q_HO350, Q_HO353, Q_HO356, Q_HO359, Q_HO362, Q_HO365, Q_X19_⟩ hb_ hon hoff
      refine ⟨_, rfl, fun K hK => ?_⟩
      have e16 : a.tmps[16]? = some (.int .u64 a0_2) := by rw [ha]; exact putSel_on (e := (8, 16, .int .u64 a0_2)) 5 rfl rfl (hon 8 (by kernel_rfl)) rfl
      replace ha := Aside0.mk ha
      have HO0_3 := Aside0.mk Q_HO0_3
      have BK346 := Aside0.mk Q_BK346
      have HB := Aside0.mk Q_HB
      have HO353 := Aside0.mk (Q_HO353 (hon 6 (by kernel_rfl)) (hoff 17 (by kernel_rfl)))
      refine goes_ Tryd.func81 (by kernel_rfl) rfl #[.int .u64 a0_2] (by rfl) rfl rfl (by first | (simp only [List.map_toArray, List.map_cons, List.map_nil, Act.eval, Array.getD_eq_getD_getElem?, Option.getD_some, e16]; done) | (simp only [List.map_toArray, List.map_cons, List.map_nil, Act.eval, Array.getD_eq_getD_getElem?, Option.getD_some, e16]; rfl)) ?_
      with_reducible refine (wire_Var.calls k a0_2 t354 _ A5.out).mono ?_
      rintro e w18 ⟨v355, rfl, ho0, hb⟩
      refine ⟨_, rfl, ?_⟩
      have n0_ := Aside0.mk (Kd.V_elder' (by (with_reducible repeat (first | apply Kd.V_alloc | apply Kd.V_drewN | apply Kd.V_drew)); exact HO0_3.out) (Kd.R_base ho0) hb)
      have n1_ := Aside0.mk (Kd.R_elder' (by (with_reducible repeat (first | apply Kd.R_alloc | apply Kd.R_drewN | apply Kd.R_drew)); exact HO353.out) (Kd.R_base ho0) hb)
      have n2_ := Aside0.mk (Kd.R_lower (Kd.R_new' (Kd.R_newM (M := fun k_ => (w.heap.size ≤ k_)) ho0 (below_size (by repeat (first | (with_reducible first | exact HB.out | apply below_alloc | apply pw_below_drewN | apply below_drew1 | refine below_set ?_ GE346.out) | exact HB.out))) (fun k_ h_ => h_)) (Kd.R_lt (by (with_reducible repeat (first | apply Kd.R_alloc | apply Kd.R_drewN | apply Kd.R_drew)); exact HO353.out))) (below_size (by repeat (first | (with_reducible first | exact HB.out | apply below_alloc | apply pw_below_drewN | apply below_drew1 | refine below_set ?_ GE346.out) | exact HB.out))))
      have n3_ := Aside0.mk (blk_below (g := gb346) (o := .cells #[.int .i64 a0_0, .int .u64 a0_1, .int .u64 a0_2, .slice A0_3 l0_3.length c0_3] 88 (0, 0)) (by (with_reducible repeat (first | refine blk_drewN ?_ _ | refine blk_drew ?_ | refine blk_alloc ?_ _)); exact BK346.out) hb)
      have n4_ := Aside0.mk (below_step (by repeat (first | (with_reducible first | exact HB.out | apply below_alloc | apply pw_below_drewN | apply below_drew1 | refine below_set ?_ GE346.out) | exact HB.out)) hb)
      have z_HO350 := fun (h0_ : b 3 = true) (h1_ : b 17 = false) => (show Kd.R (Kd.int .u8) 5 w18 w.heap.size (fun k_ => (w.heap.size ≤ k_)) v349 y348 from by first | exact (Kd.R_elder' (by (with_reducible repeat (first | apply Kd.R_alloc | apply Kd.R_drewN | apply Kd.R_drew)); exact (Q_HO350 h0_ h1_)) (Kd.R_base ho0) hb) | exact Kd.R_mono (Kd.R_elder' (by (with_reducible repeat (first | apply Kd.R_alloc | apply Kd.R_drewN | apply Kd.R_drew)); exact (Q_HO350 h0_ h1_)) (Kd.R_base ho0) hb) (fun _ h_ => by first | trivial | exact h_ | exact h_.1))
      clear HO0_3
      clear HO353
      clear BK346
      clear HB
      have HO0_3 := n0_
      have HO353 := n1_
      have HO356 := n2_
      have BK346 := n3_
      have HB := n4_
      clear n0_ n1_ n2_ n3_ n4_
      (try clear hb)
      (try clear hb2)
      (try clear hk)
      (try clear hi)
      (try clear ho0)
      refine hK.out _ _ ⟨v349, v352, v355, v358, v361, v364, m19_, (by rw [ha.out]; exact putSel_upk 6 hb_ rfl rfl rfl), (by (with_reducible repeat (first | apply Kd.V_alloc | apply Kd.V_drewN | apply Kd.V_drew)); exact Kd.V_mono HO0_3.out (fun _ hk => (by first | exact hk | (simp only [hk, ne_eq, not_false_eq_true, and_self, true_and, and_true, or_true, true_or]; done)))), (by (with_reducible repeat (first | refine blk_drewN ?_ _ | refine blk_drew ?_ | refine blk_alloc ?_ _)); exact BK346.out), (by repeat (first | (with_reducible first | exact HB.out | apply below_alloc | apply pw_below_drewN | apply below_drew1 | refine below_set ?_ GE346.out) | exact HB.out)), z_HO350, fun _ _ => (by (with_reducible repeat (first | apply Kd.R_alloc | apply Kd.R_drewN | apply Kd.R_drew)); first | exact HO353.out | exact Kd.R_mono HO353.out (fun _ hk => (by first | exact hk | (simp only [hk, ne_eq, not_false_eq_true, and_self, true_and, and_true, or_true, true_or]; done))) | exact Kd.V_mono HO353.out (fun _ hk => (by first | exact hk | (simp only [hk, ne_eq, not_false_eq_true, and_self, true_and, and_true, or_true, true_or]; done))) | exact Kd.N_mono HO353.out (fun _ hk => (by first | exact hk | (simp only [hk, ne_eq, not_false_eq_true, and_self, true_and, and_true, or_true, true_or]; done)))), fun _ _ => (by (with_reducible repeat (first | apply Kd.R_alloc | apply Kd.R_drewN | apply Kd.R_drew)); exact Kd.R_mono HO356.out (fun _ hk => (by first | exact hk | (simp only [hk, ne_eq, not_false_eq_true, and_self, true_and, and_true, or_true, true_or]; done)))), fun h0_ _ => absurd ((hoff 14 (by kernel_rfl)).symm.trans h0_) (by decide), fun h0_ => absurd ((hoff 17 (by kernel_rfl)).symm.trans h0_) (by decide), fun h0_ => absurd ((hoff 18 (by kernel_rfl)).symm.trans h0_) (by decide), fun h0_ => absurd ((hoff 19 (by kernel_rfl)).symm.trans h0_) (by decide)⟩
     refine steps_cons ?_ ?_
     ·rintro b a w' ⟨v349, v352, v355, v358, v361, v364, m19_, ha, Q_HO0_3, Q_BK346, Q_HB, Q_HO350, Q_HO353, Q_HO356, Q_HO359, Q_HO362, Q_HO365, Q_X19_⟩ hb_ hon hoff
      refine ⟨_, rfl, fun K hK => ?_⟩
      have e18 : a.tmps[18]? = some (.pointer (some ⟨gb346, 3, none⟩)) := by rw [ha]; exact (putSel_off rfl).trans rfl
      replace ha := Aside0.mk ha
      have HO0_3 := Aside0.mk Q_HO0_3
      have BK346 := Aside0.mk Q_BK346
      have HB := Aside0.mk Q_HB
      have hc0_ : w'.cell? ⟨gb346, 0, none⟩ = some (.int .i64 a0_0) := (blk_cell BK346.out 0).trans rfl
      have hc1_ : w'.cell? ⟨gb346, 1, none⟩ = some (.int .u64 a0_1) := (blk_cell BK346.out 1).trans rfl
      have hc2_ : w'.cell? ⟨gb346, 2, none⟩ = some (.int .u64 a0_2) := (blk_cell BK346.out 2).trans rfl
      have hc3_ : w'.cell? ⟨gb346, 3, none⟩ = some (.slice A0_3 l0_3.length c0_3) := (blk_cell BK346.out 3).trans rfl
      refine value_ (w1 := w') (v := .slice A0_3 l0_3.length c0_3) (by rfl) rfl ?_ ?_
      ·go_simp
       (try simp only [i64_w])
       try rfl
      refine hK.out _ _ ⟨v349, v352, v355, v358, v361, v364, m19_, (by rw [ha.out]; exact putSel_upk 7 hb_ rfl rfl rfl), Q_HO0_3, Q_BK346, Q_HB, Q_HO350, Q_HO353, Q_HO356, fun h0_ _ => absurd ((hoff 14 (by kernel_rfl)).symm.trans h0_) (by decide), fun h0_ => absurd ((hoff 17 (by kernel_rfl)).symm.trans h0_) (by decide), fun h0_ => absurd ((hoff 18 (by kernel_rfl)).symm.trans h0_) (by decide), fun h0_ => absurd ((hoff 19 (by kernel_rfl)).symm.trans h0_) (by decide)⟩
     refine steps_cons ?_ ?_
     ·rintro b a w' ⟨v349, v352, v355, v358, v361, v364, m19_, ha, Q_HO0_3, Q_BK346, Q_HB, Q_HO350, Q_HO353, Q_HO356, Q_HO359, Q_HO362, Q_HO365, Q_X19_⟩ hb_ hon hoff
      refine ⟨_, rfl, fun K hK => ?_⟩
      have e19 : a.tmps[19]? = some (.slice A0_3 l0_3.length c0_3) := by rw [ha]; exact putSel_on (e := (11, 19, .slice A0_3 l0_3.length c0_3)) 7 rfl rfl (hon 11 (by kernel_rfl)) rfl
      replace ha := Aside0.mk ha
      have HO0_3 := Aside0.mk Q_HO0_3
      have BK346 := Aside0.mk Q_BK346
      have HB := Aside0.mk Q_HB
      refine value_ (w1 := w') (v := .int .i64 (l0_3.length : Int)) (by rfl) rfl ?_ ?_
      ·go_simp
       (try simp only [i64_w])
       try rfl
      refine hK.out _ _ ⟨v349, v352, v355, v358, v361, v364, m19_, (by rw [ha.out]; exact putSel_upk 8 hb_ rfl rfl rfl), Q_HO0_3, Q_BK346, Q_HB, Q_HO350, Q_HO353, Q_HO356, fun h0_ _ => absurd ((hoff 14 (by kernel_rfl)).symm.trans h0_) (by decide), fun h0_ => absurd ((hoff 17 (by kernel_rfl)).symm.trans h0_) (by decide), fun h0_ => absurd ((hoff 18 (by kernel_rfl)).symm.trans h0_) (by decide), fun h0_ => absurd ((hoff 19 (by kernel_rfl)).symm.trans h0_) (by decide)⟩
     refine steps_cons ?_ ?_
     ·rintro b a w' ⟨v349, v352, v355, v358, v361, v364, m19_, ha, Q_HO0_3, Q_BK346, Q_HB, Q_HO350, Q_HO353, Q_HO356, Q_HO359, Q_HO362, Q_HO365, Q_X19_⟩ hb_ hon hoff
      refine ⟨_, rfl, fun K hK => ?_⟩
      have e20 : a.tmps[20]? = some (.int .i64 (l0_3.length : Int)) := by rw [ha]; exact putSel_on (e := (12, 20, .int .i64 (l0_3.length : Int))) 8 rfl rfl (hon 12 (by kernel_rfl)) rfl
      replace ha := Aside0.mk ha
      have HO0_3 := Aside0.mk Q_HO0_3
      have BK346 := Aside0.mk Q_BK346
      have HB := Aside0.mk Q_HB
      refine value_ (w1 := w') (v := .int .u64 (IntKind.u64.wrap ((l0_3.length : Int)))) (by rfl) rfl ?_ ?_
      ·go_simp
       (try simp only [i64_w])
       try rfl
      refine hK.out _ _ ⟨v349, v352, v355, v358, v361, v364, m19_, (by rw [ha.out]; exact putSel_upk 9 hb_ rfl rfl rfl), Q_HO0_3, Q_BK346, Q_HB, Q_HO350, Q_HO353, Q_HO356, fun h0_ _ => absurd ((hoff 14 (by kernel_rfl)).symm.trans h0_) (by decide), fun h0_ => absurd ((hoff 17 (by kernel_rfl)).symm.trans h0_) (by decide), fun h0_ => absurd ((hoff 18 (by kernel_rfl)).symm.trans h0_) (by decide), fun h0_ => absurd ((hoff 19 (by kernel_rfl)).symm.trans h0_) (by decide)⟩
     refine steps_cons ?_ ?_
     ·rintro b a w' ⟨v349, v352, v355, v358, v361, v364, m19_, ha, Q_HO0_3, Q_BK346, Q_HB, Q_HO350, Q_HO353, Q_HO356, Q_HO359, Q_HO362, Q_HO365, Q_X19_⟩ hb_ hon hoff
      refine ⟨_, rfl, fun K hK => ?_⟩
      have e21 : a.tmps[21]? = some (.int .u64 (IntKind.u64.wrap ((l0_3.length : Int)))) := by rw [ha]; exact putSel_on (e := (13, 21, .int .u64 (IntKind.u64.wrap ((l0_3.length : Int))))) 9 rfl rfl (hon 13 (by kernel_rfl)) rfl
      replace ha := Aside0.mk ha
      have HO0_3 := Aside0.mk Q_HO0_3
      have BK346 := Aside0.mk Q_BK346
      have HB := Aside0.mk Q_HB
      have HO353 := Aside0.mk (Q_HO353 (hon 6 (by kernel_rfl)) (hoff 17 (by kernel_rfl)))
      have HO356 := Aside0.mk (Q_HO356 (hon 9 (by kernel_rfl)) (hoff 17 (by kernel_rfl)))
      refine goes_ Tryd.func81 (by kernel_rfl) rfl #[.int .u64 (IntKind.u64.wrap ((l0_3.length : Int)))] (by rfl) rfl rfl (by first | (simp only [List.map_toArray, List.map_cons, List.map_nil, Act.eval, Array.getD_eq_getD_getElem?, Option.getD_some, e21]; done) | (simp only [List.map_toArray, List.map_cons, List.map_nil, Act.eval, Array.getD_eq_getD_getElem?, Option.getD_some, e21]; rfl)) ?_
      with_reducible refine (wire_Var.calls k (IntKind.u64.wrap ((l0_3.length : Int))) t357 _ A6.out).mono ?_
      rintro e w19 ⟨v358, rfl, ho0, hb⟩
      refine ⟨_, rfl, ?_⟩
      have n0_ := Aside0.mk (Kd.V_elder' (by (with_reducible repeat (first | apply Kd.V_alloc | apply Kd.V_drewN | apply Kd.V_drew)); exact HO0_3.out) (Kd.R_base ho0) hb)
      have n1_ := Aside0.mk (Kd.R_elder' (by (with_reducible repeat (first | apply Kd.R_alloc | apply Kd.R_drewN | apply Kd.R_drew)); exact HO353.out) (Kd.R_base ho0) hb)
      have n2_ := Aside0.mk (Kd.R_elder' (by (with_reducible repeat (first | apply Kd.R_alloc | apply Kd.R_drewN | apply Kd.R_drew)); exact HO356.out) (Kd.R_base ho0) hb)
      have n3_ := Aside0.mk (Kd.R_lower (Kd.R_new' (Kd.R_new' (Kd.R_newM (M := fun k_ => (w.heap.size ≤ k_)) ho0 (below_size (by repeat (first | (with_reducible first | exact HB.out | apply below_alloc | apply pw_below_drewN | apply below_drew1 | refine below_set ?_ GE346.out) | exact HB.out))) (fun k_ h_ => h_)) (Kd.R_lt (by (with_reducible repeat (first | apply Kd.R_alloc | apply Kd.R_drewN | apply Kd.R_drew)); exact HO353.out))) (Kd.R_lt (by (with_reducible repeat (first | apply Kd.R_alloc | apply Kd.R_drewN | apply Kd.R_drew)); exact HO356.out))) (below_size (by repeat (first | (with_reducible first | exact HB.out | apply below_alloc | apply pw_below_drewN | apply below_drew1 | refine below_set ?_ GE346.out) | exact HB.out))))
      have n4_ := Aside0.mk (blk_below (g := gb346) (o := .cells #[.int .i64 a0_0, .int .u64 a0_1, .int .u64 a0_2, .slice A0_3 l0_3.length c0_3] 88 (0, 0)) (by (with_reducible repeat (first | refine blk_drewN ?_ _ | refine blk_drew ?_ | refine blk_alloc ?_ _)); exact BK346.out) hb)
      have n5_ := Aside0.mk (below_step (by repeat (first | (with_reducible first | exact HB.out | apply below_alloc | apply pw_below_drewN | apply below_drew1 | refine below_set ?_ GE346.out) | exact HB.out)) hb)
      have z_HO350 := fun (h0_ : b 3 = true) (h1_ : b 17 = false) => (show Kd.R (Kd.int .u8) 5 w19 w.heap.size (fun k_ => (w.heap.size ≤ k_)) v349 y348 from by first | exact (Kd.R_elder' (by (with_reducible repeat (first | apply Kd.R_alloc | apply Kd.R_drewN | apply Kd.R_drew)); exact (Q_HO350 h0_ h1_)) (Kd.R_base ho0) hb) | exact Kd.R_mono (Kd.R_elder' (by (with_reducible repeat (first | apply Kd.R_alloc | apply Kd.R_drewN | apply Kd.R_drew)); exact (Q_HO350 h0_ h1_)) (Kd.R_base ho0) hb) (fun _ h_ => by first | trivial | exact h_ | exact h_.1))
      clear HO0_3
      clear HO353
      clear HO356
      clear BK346
      clear HB
      have HO0_3 := n0_
      have HO353 := n1_
      have HO356 := n2_
      have HO359 := n3_
      have BK346 := n4_
      have HB := n5_
      clear n0_ n1_ n2_ n3_ n4_ n5_
      (try clear hb)
      (try clear hb2)
      (try clear hk)
      (try clear hi)
      (try clear ho0)
      refine hK.out _ _ ⟨v349, v352, v355, v358, v361, v364, m19_, (by rw [ha.out]; exact putSel_upk 10 hb_ rfl rfl rfl), (by (with_reducible repeat (first | apply Kd.V_alloc | apply Kd.V_drewN | apply Kd.V_drew)); exact Kd.V_mono HO0_3.out (fun _ hk => (by first | exact hk | (simp only [hk, ne_eq, not_false_eq_true, and_self, true_and, and_true, or_true, true_or]; done)))), (by (with_reducible repeat (first | refine blk_drewN ?_ _ | refine blk_drew ?_ | refine blk_alloc ?_ _)); exact BK346.out), (by repeat (first | (with_reducible first | exact HB.out | apply below_alloc | apply pw_below_drewN | apply below_drew1 | refine below_set ?_ GE346.out) | exact HB.out)), z_HO350, fun _ _ => (by (with_reducible repeat (first | apply Kd.R_alloc | apply Kd.R_drewN | apply Kd.R_drew)); exact Kd.R_mono HO353.out (fun _ hk => (by first | exact hk | (simp only [hk, ne_eq, not_false_eq_true, and_self, true_and, and_true, or_true, true_or]; done)))), fun _ _ => (by (with_reducible repeat (first | apply Kd.R_alloc | apply Kd.R_drewN | apply Kd.R_drew)); exact Kd.R_mono HO356.out (fun _ hk => (by first | exact hk | (simp only [hk, ne_eq, not_false_eq_true, and_self, true_and, and_true, or_true, true_or]; done)))), fun _ _ => (by (with_reducible repeat (first | apply Kd.R_alloc | apply Kd.R_drewN | apply Kd.R_drew)); exact Kd.R_mono HO359.out (fun _ hk => (by first | exact hk | (simp only [hk, ne_eq, not_false_eq_true, and_self, true_and, and_true, or_true, true_or]; done)))), fun h0_ => absurd ((hoff 17 (by kernel_rfl)).symm.trans h0_) (by decide), fun h0_ => absurd ((hoff 18 (by kernel_rfl)).symm.trans h0_) (by decide), fun h0_ => absurd ((hoff 19 (by kernel_rfl)).symm.trans h0_) (by decide)⟩
     refine steps_cons ?_ ?_
     ·rintro b a w' ⟨v349, v352, v355, v358, v361, v364, m19_, ha, Q_HO0_3, Q_BK346, Q_HB, Q_HO350, Q_HO353, Q_HO356, Q_HO359, Q_HO362, Q_HO365, Q_X19_⟩ hb_ hon hoff
      refine ⟨_, rfl, fun K hK => ?_⟩
      have e23 : a.tmps[23]? = some (.pointer (some ⟨gb346, 3, none⟩)) := by rw [ha]; exact (putSel_off rfl).trans rfl
      replace ha := Aside0.mk ha
      have HO0_3 := Aside0.mk Q_HO0_3
      have BK346 := Aside0.mk Q_BK346
      have HB := Aside0.mk Q_HB
      have hc0_ : w'.cell? ⟨gb346, 0, none⟩ = some (.int .i64 a0_0) := (blk_cell BK346.out 0).trans rfl
      have hc1_ : w'.cell? ⟨gb346, 1, none⟩ = some (.int .u64 a0_1) := (blk_cell BK346.out 1).trans rfl
      have hc2_ : w'.cell? ⟨gb346, 2, none⟩ = some (.int .u64 a0_2) := (blk_cell BK346.out 2).trans rfl
      have hc3_ : w'.cell? ⟨gb346, 3, none⟩ = some (.slice A0_3 l0_3.length c0_3) := (blk_cell BK346.out 3).trans rfl
      refine value_ (w1 := w') (v := .slice A0_3 l0_3.length c0_3) (by rfl) rfl ?_ ?_
      ·go_simp
       (try simp only [i64_w])
       try rfl
      refine hK.out _ _ ⟨v349, v352, v355, v358, v361, v364, m19_, (by rw [ha.out]; exact putSel_upk 11 hb_ rfl rfl rfl), Q_HO0_3, Q_BK346, Q_HB, Q_HO350, Q_HO353, Q_HO356, Q_HO359, fun h0_ => absurd ((hoff 17 (by kernel_rfl)).symm.trans h0_) (by decide), fun h0_ => absurd ((hoff 18 (by kernel_rfl)).symm.trans h0_) (by decide), fun h0_ => absurd ((hoff 19 (by kernel_rfl)).symm.trans h0_) (by decide)⟩
     refine steps_cons ?_ ?_
     ·rintro b a w' ⟨v349, v352, v355, v358, v361, v364, m19_, ha, Q_HO0_3, Q_BK346, Q_HB, Q_HO350, Q_HO353, Q_HO356, Q_HO359, Q_HO362, Q_HO365, Q_X19_⟩ hb_ hon hoff
      refine ⟨_, rfl, fun K hK => ?_⟩
      have e11 : a.tmps[11]? = some (v349) := by rw [ha]; exact putSel_on (e := (3, 11, v349)) 2 rfl rfl (hon 3 (by kernel_rfl)) rfl
      have e14 : a.tmps[14]? = some (v352) := by rw [ha]; exact putSel_on (e := (6, 14, v352)) 4 rfl rfl (hon 6 (by kernel_rfl)) rfl
      have e17 : a.tmps[17]? = some (v355) := by rw [ha]; exact putSel_on (e := (9, 17, v355)) 6 rfl rfl (hon 9 (by kernel_rfl)) rfl
      have e22 : a.tmps[22]? = some (v358) := by rw [ha]; exact putSel_on (e := (14, 22, v358)) 10 rfl rfl (hon 14 (by kernel_rfl)) rfl
      have e24 : a.tmps[24]? = some (.slice A0_3 l0_3.length c0_3) := by rw [ha]; exact putSel_on (e := (16, 24, .slice A0_3 l0_3.length c0_3)) 11 rfl rfl (hon 16 (by kernel_rfl)) rfl
      replace ha := Aside0.mk ha
      have HO0_3 := Aside0.mk Q_HO0_3
      have BK346 := Aside0.mk Q_BK346
      have HB := Aside0.mk Q_HB
      have HO350 := Aside0.mk (Q_HO350 (hon 3 (by kernel_rfl)) hb_)
      have HO353 := Aside0.mk (Q_HO353 (hon 6 (by kernel_rfl)) hb_)
      have HO356 := Aside0.mk (Q_HO356 (hon 9 (by kernel_rfl)) hb_)
      have HO359 := Aside0.mk (Q_HO359 (hon 14 (by kernel_rfl)) hb_)
      obtain ⟨Ao22, co22, eo22⟩ := Kd.R_slice HO350.out
      (first | subst eo22 | (injection eo22 with f1_ f2_ f3_; have f4_ := f1_.symm; have f5_ := f3_.symm; clear f1_ f2_ f3_; subst f4_; subst f5_))
      obtain ⟨Ao23, co23, eo23⟩ := Kd.R_slice HO353.out
      (first | subst eo23 | (injection eo23 with f1_ f2_ f3_; have f4_ := f1_.symm; have f5_ := f3_.symm; clear f1_ f2_ f3_; subst f4_; subst f5_))
      obtain ⟨Ao24, co24, eo24⟩ := Kd.R_slice HO356.out
      (first | subst eo24 | (injection eo24 with f1_ f2_ f3_; have f4_ := f1_.symm; have f5_ := f3_.symm; clear f1_ f2_ f3_; subst f4_; subst f5_))
      obtain ⟨Ao25, co25, eo25⟩ := Kd.R_slice HO359.out
      (first | subst eo25 | (injection eo25 with f1_ f2_ f3_; have f4_ := f1_.symm; have f5_ := f3_.symm; clear f1_ f2_ f3_; subst f4_; subst f5_))
      refine Kd.N_lit_step (Kd.slice 5 (Kd.int .u8)) _ 64 ?hg (N' := 25) ?hd (xs := ([y348, t351, t354, t357, l0_3] : List (List Int))) (inner := [.slice Ao22 y348.length co22, .slice Ao23 t351.length co23, .slice Ao24 t354.length co24, .slice Ao25 t357.length co25, .slice A0_3 l0_3.length c0_3]) (ok := (fun k_ => (P0_3_ k_ ∨ w.heap.size ≤ k_) ∧ k_ ≠ gb346)) (okp := (fun k_ => (P0_3_ k_ ∨ w.heap.size ≤ k_) ∧ k_ ≠ gb346)) ?hr ?hp (fun _ hk => (by first | exact hk | (simp only [hk, ne_eq, not_false_eq_true, and_self, true_and, and_true, or_true, true_or]; done))) ((show ∀ k_, w'.heap.size ≤ k_ → (fun k_ => (P0_3_ k_ ∨ w.heap.size ≤ k_) ∧ k_ ≠ gb346) k_ from fun k_ hk => ⟨(.inr (Nat.le_trans (below_size (by repeat (first | (with_reducible first | exact HB.out | apply below_alloc | apply pw_below_drewN | apply below_drew1 | refine below_set ?_ GE346.out) | exact HB.out))) hk)), Kd.freshB (g := gb346) (o := .cells #[.int .i64 a0_0, .int .u64 a0_1, .int .u64 a0_2, .slice A0_3 l0_3.length c0_3] 88 (0, 0)) (by (with_reducible repeat (first | refine blk_drewN ?_ _ | refine blk_drew ?_ | refine blk_alloc ?_ _)); exact BK346.out) k_ hk⟩) _ (Nat.le_refl _)) (Below.refl _ _) (Nat.le_refl _) (by simp) ?_; (case hd => rfl); (case hg => rfl); (case hr => first | (go_simp; done) | (go_simp; rfl)); (case hp => exact (Reps.one (show Kd.FK (Kd.slice 5 (Kd.int .u8)) _ _ y348 [.slice Ao22 y348.length co22] from (Kd.FK_slice_mk (Kd.R_reads' (Kd.R_mono (ok' := (fun k_ => (P0_3_ k_ ∨ w.heap.size ≤ k_) ∧ k_ ≠ gb346)) (Kd.R_types (HO350.out) BK346.out (by decide)) (fun k_ hk => (by first | exact hk | (simp only [hk, ne_eq, not_false_eq_true, and_self, true_and, and_true, or_true, true_or]; done))))).2.1 (Kd.R_F (Kd.R_mono (ok' := (fun k_ => (P0_3_ k_ ∨ w.heap.size ≤ k_) ∧ k_ ≠ gb346)) (Kd.R_types (HO350.out) BK346.out (by decide)) (fun k_ hk => (by first | exact hk | (simp only [hk, ne_eq, not_false_eq_true, and_self, true_and, and_true, or_true, true_or]; done))))))) (Reps.one (show Kd.FK (Kd.slice 5 (Kd.int .u8)) _ _ t351 [.slice Ao23 t351.length co23] from (Kd.FK_slice_mk (Kd.R_reads' (Kd.R_mono (ok' := (fun k_ => (P0_3_ k_ ∨ w.heap.size ≤ k_) ∧ k_ ≠ gb346)) (Kd.R_types (HO353.out) BK346.out (by decide)) (fun k_ hk => (by first | exact hk | (simp only [hk, ne_eq, not_false_eq_true, and_self, true_and, and_true, or_true, true_or]; done))))).2.1 (Kd.R_F (Kd.R_mono (ok' := (fun k_ => (P0_3_ k_ ∨ w.heap.size ≤ k_) ∧ k_ ≠ gb346)) (Kd.R_types (HO353.out) BK346.out (by decide)) (fun k_ hk => (by first | exact hk | (simp only [hk, ne_eq, not_false_eq_true, and_self, true_and, and_true, or_true, true_or]; done))))))) (Reps.one (show Kd.FK (Kd.slice 5 (Kd.int .u8)) _ _ t354 [.slice Ao24 t354.length co24] from (Kd.FK_slice_mk (Kd.R_reads' (Kd.R_mono (ok' := (fun k_ => (P0_3_ k_ ∨ w.heap.size ≤ k_) ∧ k_ ≠ gb346)) (Kd.R_types (HO356.out) BK346.out (by decide)) (fun k_ hk => (by first | exact hk | (simp only [hk, ne_eq, not_false_eq_true, and_self, true_and, and_true, or_true, true_or]; done))))).2.1 (Kd.R_F (Kd.R_mono (ok' := (fun k_ => (P0_3_ k_ ∨ w.heap.size ≤ k_) ∧ k_ ≠ gb346)) (Kd.R_types (HO356.out) BK346.out (by decide)) (fun k_ hk => (by first | exact hk | (simp only [hk, ne_eq, not_false_eq_true, and_self, true_and, and_true, or_true, true_or]; done))))))) (Reps.one (show Kd.FK (Kd.slice 5 (Kd.int .u8)) _ _ t357 [.slice Ao25 t357.length co25] from (Kd.FK_slice_mk (Kd.R_reads' (Kd.R_mono (ok' := (fun k_ => (P0_3_ k_ ∨ w.heap.size ≤ k_) ∧ k_ ≠ gb346)) (Kd.R_types (HO359.out) BK346.out (by decide)) (fun k_ hk => (by first | exact hk | (simp only [hk, ne_eq, not_false_eq_true, and_self, true_and, and_true, or_true, true_or]; done))))).2.1 (Kd.R_F (Kd.R_mono (ok' := (fun k_ => (P0_3_ k_ ∨ w.heap.size ≤ k_) ∧ k_ ≠ gb346)) (Kd.R_types (HO359.out) BK346.out (by decide)) (fun k_ hk => (by first | exact hk | (simp only [hk, ne_eq, not_false_eq_true, and_self, true_and, and_true, or_true, true_or]; done))))))) (Reps.one (show Kd.FK (Kd.slice 5 (Kd.int .u8)) _ _ l0_3 [.slice A0_3 l0_3.length c0_3] from (Kd.FK_slice_mk (Kd.V_reads' (Kd.V_mono (ok' := (fun k_ => (P0_3_ k_ ∨ w.heap.size ≤ k_) ∧ k_ ≠ gb346)) (HO0_3.out) (fun k_ hk => (by first | exact hk | (simp only [hk, ne_eq, not_false_eq_true, and_self, true_and, and_true, or_true, true_or]; done))))).2.1 (Kd.V_F (Kd.V_mono (ok' := (fun k_ => (P0_3_ k_ ∨ w.heap.size ≤ k_) ∧ k_ ≠ gb346)) (HO0_3.out) (fun k_ hk => (by first | exact hk | (simp only [hk, ne_eq, not_false_eq_true, and_self, true_and, and_true, or_true, true_or]; done))))))) (Reps.none _ _)))))))
      intro v361 w26 ho27 hb hg_ hnew_
      clear hg_ hnew_
      (first | rw [← Ny360.out] at ho27 | (simp only [Int.reduceToNat] at ho27; rw [← Ny360.out] at ho27))
      have n0_ := Aside0.mk (Kd.V_elder' (by (with_reducible repeat (first | apply Kd.V_alloc | apply Kd.V_drewN | apply Kd.V_drew)); exact HO0_3.out) (Kd.N_base ho27) hb)
      have n1_ := Aside0.mk (Kd.N_lower ho27 (below_size (by repeat (first | (with_reducible first | exact HB.out | apply below_alloc | apply pw_below_drewN | apply below_drew1 | refine below_set ?_ GE346.out) | exact HB.out))))
      have n2_ := Aside0.mk (blk_below (g := gb346) (o := .cells #[.int .i64 a0_0, .int .u64 a0_1, .int .u64 a0_2, .slice A0_3 l0_3.length c0_3] 88 (0, 0)) (by (with_reducible repeat (first | refine blk_drewN ?_ _ | refine blk_drew ?_ | refine blk_alloc ?_ _)); exact BK346.out) hb)
      have n3_ := Aside0.mk (below_step (by repeat (first | (with_reducible first | exact HB.out | apply below_alloc | apply pw_below_drewN | apply below_drew1 | refine below_set ?_ GE346.out) | exact HB.out)) hb)
      clear HO0_3
      clear BK346
      clear HB
      clear HO350
      clear HO353
      clear HO356
      clear HO359
      have HO0_3 := n0_
      have HO362 := n1_
      have BK346 := n2_
      have HB := n3_
      clear n0_ n1_ n2_ n3_
      clear hb ho27
      refine hK.out _ _ ⟨.slice Ao22 y348.length co22, .slice Ao23 t351.length co23, .slice Ao24 t354.length co24, .slice Ao25 t357.length co25, v361, v364, m19_, (by rw [ha.out]; exact putSel_upk 12 hb_ rfl rfl rfl), (by (with_reducible repeat (first | apply Kd.V_alloc | apply Kd.V_drewN | apply Kd.V_drew)); exact Kd.V_mono HO0_3.out (fun _ hk => (by first | exact hk | (simp only [hk, ne_eq, not_false_eq_true, and_self, true_and, and_true, or_true, true_or]; done)))), (by (with_reducible repeat (first | refine blk_drewN ?_ _ | refine blk_drew ?_ | refine blk_alloc ?_ _)); exact BK346.out), (by repeat (first | (with_reducible first | exact HB.out | apply below_alloc | apply pw_below_drewN | apply below_drew1 | refine below_set ?_ GE346.out) | exact HB.out)), fun _ h1_ => absurd ((up_self b 17).symm.trans h1_) (by decide), fun _ h1_ => absurd ((up_self b 17).symm.trans h1_) (by decide), fun _ h1_ => absurd ((up_self b 17).symm.trans h1_) (by decide), fun _ h1_ => absurd ((up_self b 17).symm.trans h1_) (by decide), fun _ => (by (with_reducible repeat (first | apply Kd.N_alloc | apply Kd.N_drewN | apply Kd.N_drew)); first | exact HO362.out | exact Kd.R_mono HO362.out (fun _ hk => (by first | exact hk | (simp only [hk, ne_eq, not_false_eq_true, and_self, true_and, and_true, or_true, true_or]; done))) | exact Kd.V_mono HO362.out (fun _ hk => (by first | exact hk | (simp only [hk, ne_eq, not_false_eq_true, and_self, true_and, and_true, or_true, true_or]; done))) | exact Kd.N_mono HO362.out (fun _ hk => (by first | exact hk | (simp only [hk, ne_eq, not_false_eq_true, and_self, true_and, and_true, or_true, true_or]; done)))), fun h0_ => absurd ((hoff 18 (by kernel_rfl)).symm.trans h0_) (by decide), fun h0_ => absurd ((hoff 19 (by kernel_rfl)).symm.trans h0_) (by decide)⟩
     refine steps_cons ?_ ?_
     ·rintro b a w' ⟨v349, v352, v355, v358, v361, v364, m19_, ha, Q_HO0_3, Q_BK346, Q_HB, Q_HO350, Q_HO353, Q_HO356, Q_HO359, Q_HO362, Q_HO365, Q_X19_⟩ hb_ hon hoff
      refine ⟨_, rfl, fun K hK => ?_⟩
      have e25 : a.tmps[25]? = some (v361) := by rw [ha]; exact putSel_on (e := (17, 25, v361)) 12 rfl rfl (hon 17 (by kernel_rfl)) rfl
      replace ha := Aside0.mk ha
      have HO0_3 := Aside0.mk Q_HO0_3
      have BK346 := Aside0.mk Q_BK346
      have HB := Aside0.mk Q_HB
      have HO362 := Aside0.mk (Q_HO362 (hon 17 (by kernel_rfl)))
      obtain ⟨Ao28, co28, eo28⟩ := Kd.N_slice HO362.out
      (first | subst eo28 | (injection eo28 with f1_ f2_ f3_; have f4_ := f1_.symm; have f5_ := f3_.symm; clear f1_ f2_ f3_; subst f4_; subst f5_))
      refine goes_ Tryd.func80 (by kernel_rfl) rfl #[.slice Ao28 y360.length co28, .slice none 0 0] (by rfl) rfl rfl (by first | (simp only [List.map_toArray, List.map_cons, List.map_nil, Act.eval, Array.getD_eq_getD_getElem?, Option.getD_some, e25]; done) | (simp only [List.map_toArray, List.map_cons, List.map_nil, Act.eval, Array.getD_eq_getD_getElem?, Option.getD_some, e25]; rfl)) ?_
      refine (bytes_Join.calls _ _ y360 _ _ ([] : List Int) t363 _ ?side1 ?side2 ?side3 ?side4 A7.out (spot_of_N HO362.out)).mono ?_
      (case side1 => repeat (first | exact (Kd.N_reads' HO362.out).2.2 | (with_reducible refine Kd.C_alloc ?_ _) | (with_reducible refine Kd.C_drewN ?_ _) | (with_reducible refine Kd.C_drew ?_)))
      (case side2 => exact (Kd.N_reads' HO362.out).2.1)
      (case side3 => exact Kd.C_nil _ _)
      (case side4 => exact Nat.le_refl _)
      rintro e w29 ⟨v364, rfl, ho0, hb⟩
      refine ⟨_, rfl, ?_⟩
      have n0_ := Aside0.mk (Kd.V_below (by (with_reducible repeat (first | apply Kd.V_alloc | apply Kd.V_drewN | apply Kd.V_drew)); exact HO0_3.out) hb)
      have n1_ := Aside0.mk (Kd.N_below (by (with_reducible repeat (first | apply Kd.N_alloc | apply Kd.N_drewN | apply Kd.N_drew)); exact HO362.out) hb)
      have n2_ := Aside0.mk (Kd.V_lower (Kd.V_mono (ok' := fun k_ => (P0_3_ k_ ∨ w.heap.size ≤ k_) ∧ some k_ ≠ (.slice Ao28 y360.length co28 : Value).ownBlock ∧ k_ ≠ gb346) ho0 (fun k_ hk_ => ⟨(.inr (Nat.le_trans (below_size (by repeat (first | (with_reducible first | exact HB.out | apply below_alloc | apply pw_below_drewN | apply below_drew1 | refine below_set ?_ GE346.out) | exact HB.out))) hk_.2.1)), (Kd.fresh' (Kd.N_lt (by (with_reducible repeat (first | apply Kd.N_alloc | apply Kd.N_drewN | apply Kd.N_drew)); exact HO362.out)) k_ hk_.2.1), (Kd.freshB (g := gb346) (o := .cells #[.int .i64 a0_0, .int .u64 a0_1, .int .u64 a0_2, .slice A0_3 l0_3.length c0_3] 88 (0, 0)) (by (with_reducible repeat (first | refine blk_drewN ?_ _ | refine blk_drew ?_ | refine blk_alloc ?_ _)); exact BK346.out) k_ hk_.2.1)⟩)) (below_size (by repeat (first | (with_reducible first | exact HB.out | apply below_alloc | apply pw_below_drewN | apply below_drew1 | refine below_set ?_ GE346.out) | exact HB.out))))
      have n3_ := Aside0.mk (blk_below (g := gb346) (o := .cells #[.int .i64 a0_0, .int .u64 a0_1, .int .u64 a0_2, .slice A0_3 l0_3.length c0_3] 88 (0, 0)) (by (with_reducible repeat (first | refine blk_drewN ?_ _ | refine blk_drew ?_ | refine blk_alloc ?_ _)); exact BK346.out) hb)
      have n4_ := Aside0.mk (below_step (by repeat (first | (with_reducible first | exact HB.out | apply below_alloc | apply pw_below_drewN | apply below_drew1 | refine below_set ?_ GE346.out) | exact HB.out)) hb)
      clear HO0_3
      clear HO362
      clear BK346
      clear HB
      have HO0_3 := n0_
      have HO362 := n1_
      have HO365 := n2_
      have BK346 := n3_
      have HB := n4_
      clear n0_ n1_ n2_ n3_ n4_
      (try clear hb)
      (try clear hb2)
      (try clear hk)
      (try clear hi)
      (try clear ho0)
      refine hK.out _ _ ⟨v349, v352, v355, v358, .slice Ao28 y360.length co28, v364, m19_, (by rw [ha.out]; exact putSel_upk 13 hb_ rfl rfl rfl), (by (with_reducible repeat (first | apply Kd.V_alloc | apply Kd.V_drewN | apply Kd.V_drew)); exact HO0_3.out), (by (with_reducible repeat (first | refine blk_drewN ?_ _ | refine blk_drew ?_ | refine blk_alloc ?_ _)); exact BK346.out), (by repeat (first | (with_reducible first | exact HB.out | apply below_alloc | apply pw_below_drewN | apply below_drew1 | refine below_set ?_ GE346.out) | exact HB.out)), fun _ h1_ => absurd ((hon 17 (by kernel_rfl)).symm.trans h1_) (by decide), fun _ h1_ => absurd ((hon 17 (by kernel_rfl)).symm.trans h1_) (by decide), fun _ h1_ => absurd ((hon 17 (by kernel_rfl)).symm.trans h1_) (by decide), fun _ h1_ => absurd ((hon 17 (by kernel_rfl)).symm.trans h1_) (by decide), fun _ => (by (with_reducible repeat (first | apply Kd.N_alloc | apply Kd.N_drewN | apply Kd.N_drew)); first | exact HO362.out | exact Kd.R_mono HO362.out (fun _ hk => (by first | exact hk | (simp only [hk, ne_eq, not_false_eq_true, and_self, true_and, and_true, or_true, true_or]; done))) | exact Kd.V_mono HO362.out (fun _ hk => (by first | exact hk | (simp only [hk, ne_eq, not_false_eq_true, and_self, true_and, and_true, or_true, true_or]; done))) | exact Kd.N_mono HO362.out (fun _ hk => (by first | exact hk | (simp only [hk, ne_eq, not_false_eq_true, and_self, true_and, and_true, or_true, true_or]; done)))), fun _ => (by (with_reducible repeat (first | apply Kd.V_alloc | apply Kd.V_drewN | apply Kd.V_drew)); first | exact HO365.out | exact Kd.R_mono HO365.out (fun _ hk => (by first | exact hk | (simp only [hk, ne_eq, not_false_eq_true, and_self, true_and, and_true, or_true, true_or]; done))) | exact Kd.V_mono HO365.out (fun _ hk => (by first | exact hk | (simp only [hk, ne_eq, not_false_eq_true, and_self, true_and, and_true, or_true, true_or]; done))) | exact Kd.N_mono HO365.out (fun _ hk => (by first | exact hk | (simp only [hk, ne_eq, not_false_eq_true, and_self, true_and, and_true, or_true, true_or]; done)))), fun h0_ => absurd ((hoff 19 (by kernel_rfl)).symm.trans h0_) (by decide)⟩
     refine steps_cons ?_ ?_
     ·rintro b a w' ⟨v349, v352, v355, v358, v361, v364, m19_, ha, Q_HO0_3, Q_BK346, Q_HB, Q_HO350, Q_HO353, Q_HO356, Q_HO359, Q_HO362, Q_HO365, Q_X19_⟩ hb_ hon hoff
      refine ⟨_, rfl, fun K hK => ?_⟩
      have e26 : a.tmps[26]? = some (v364) := by rw [ha]; exact putSel_on (e := (18, 26, v364)) 13 rfl rfl (hon 18 (by kernel_rfl)) rfl
      replace ha := Aside0.mk ha
      have HO0_3 := Aside0.mk Q_HO0_3
      have BK346 := Aside0.mk Q_BK346
      have HB := Aside0.mk Q_HB
      have HO362 := Aside0.mk (Q_HO362 (hon 17 (by kernel_rfl)))
      have HO365 := Aside0.mk (Q_HO365 (hon 18 (by kernel_rfl)))
      refine value_ (w1 := w') (v := v364) (by rfl) rfl ?_ ?_
      ·go_simp
       (try simp only [i64_w])
       try rfl
      refine hK.out _ _ ⟨v349, v352, v355, v358, v361, v364, (v364), (by rw [ha.out]; exact putSel_upk 14 hb_ rfl rfl rfl), Q_HO0_3, Q_BK346, Q_HB, fun _ h1_ => absurd ((hon 17 (by kernel_rfl)).symm.trans h1_) (by decide), fun _ h1_ => absurd ((hon 17 (by kernel_rfl)).symm.trans h1_) (by decide), fun _ h1_ => absurd ((hon 17 (by kernel_rfl)).symm.trans h1_) (by decide), fun _ h1_ => absurd ((hon 17 (by kernel_rfl)).symm.trans h1_) (by decide), Q_HO362, Q_HO365, fun _ => rfl⟩
     exact steps_nil
    rintro b a w29 hall ⟨v349, v352, v355, v358, v361, v364, m19_, ha, Q_HO0_3, Q_BK346, Q_HB, Q_HO350, Q_HO353, Q_HO356, Q_HO359, Q_HO362, Q_HO365, Q_X19_⟩
    clear BK346 HB HO0_3
    have hb1_ := hall 1 (by kernel_rfl)
    have hb2_ := hall 2 (by kernel_rfl)
    have hb3_ := hall 3 (by kernel_rfl)
    have hb5_ := hall 5 (by kernel_rfl)
    have hb6_ := hall 6 (by kernel_rfl)
    have hb8_ := hall 8 (by kernel_rfl)
    have hb9_ := hall 9 (by kernel_rfl)
    have hb11_ := hall 11 (by kernel_rfl)
    have hb12_ := hall 12 (by kernel_rfl)
    have hb13_ := hall 13 (by kernel_rfl)
    have hb14_ := hall 14 (by kernel_rfl)
    have hb16_ := hall 16 (by kernel_rfl)
    have hb17_ := hall 17 (by kernel_rfl)
    have hb18_ := hall 18 (by kernel_rfl)
    have hb19_ := hall 19 (by kernel_rfl)
    subst ha
    obtain rfl := Q_X19_ hb19_
    simp only [putSel, hb1_, hb2_, hb3_, hb5_, hb6_, hb8_, hb9_, hb11_, hb12_, hb13_, hb14_, hb16_, hb17_, hb18_, hb19_, if_true, Act.put, List.setIfInBounds_toArray, List.set_cons_zero, List.set_cons_succ]
    have HO0_3 := Aside0.mk Q_HO0_3
    clear Q_HO0_3
    have BK346 := Aside0.mk Q_BK346
    clear Q_BK346
    have HB := Aside0.mk Q_HB
    clear Q_HB
    clear Q_HO350
    clear Q_HO353
    clear Q_HO356
    clear Q_HO359
    have HO362 := Aside0.mk (Q_HO362 hb17_)
    clear Q_HO362
    have HO365 := Aside0.mk (Q_HO365 hb18_)
    clear Q_HO365
    clear hall hb1_ hb2_ hb3_ hb5_ hb6_ hb8_ hb9_ hb11_ hb12_ hb13_ hb14_ hb16_ hb17_ hb18_ hb19_
    try go_wp2_with (first | ((with_reducible refine gate_dst (N := 27) rfl ?_); refine Kd.R_lit (Kd.int .u8) _ 5 ?hg (N := 27) ?hd (xs := ([167, 92] : List Int)) (inner := [.int .u8 167, .int .u8 92]) (ok := fun _ => True) (okp := fun _ => True) ?hr ?hp (fun _ hk => (by first | exact hk | (simp only [hk, ne_eq, not_false_eq_true, and_self, true_and, and_true, or_true, true_or]; done))) trivial (Below.refl _ _) (Nat.le_refl _) (by simp) ?_; (case hd => rfl); (case hg => rfl); (case hr => first | (go_simp; done) | (go_simp; rfl)); (case hp => exact (Reps.one (show Kd.M (Kd.int .u8) _ _ _ 167 [.int .u8 167] from rfl) (Reps.one (show Kd.M (Kd.int .u8) _ _ _ 92 [.int .u8 92] from rfl) (Reps.none _ _)))); intro v367 w30 ho31 hb hg_ hnew_; clear hg_ hnew_; (first | rw [← Ny366.out] at ho31 | (simp only [Int.reduceToNat] at ho31; rw [← Ny366.out] at ho31)); have n0_ := Aside0.mk (Kd.V_elder' (by (with_reducible repeat (first | apply Kd.V_alloc | apply Kd.V_drewN | apply Kd.V_drew)); exact HO0_3.out) (Kd.R_base ho31) hb); have n1_ := Aside0.mk (Kd.N_elder' (by (with_reducible repeat (first | apply Kd.N_alloc | apply Kd.N_drewN | apply Kd.N_drew)); exact HO362.out) (Kd.R_base ho31) hb); have n2_ := Aside0.mk (Kd.V_elder' (by (with_reducible repeat (first | apply Kd.V_alloc | apply Kd.V_drewN | apply Kd.V_drew)); exact HO365.out) (Kd.R_base ho31) hb); have n3_ := Aside0.mk (Kd.R_lower (Kd.R_newM (M := fun k_ => (w.heap.size ≤ k_)) ho31 (below_size (by repeat (first | (with_reducible first | exact HB.out | apply below_alloc | apply pw_below_drewN | apply below_drew1 | refine below_set ?_ GE346.out) | exact HB.out))) (fun k_ h_ => h_)) (below_size (by repeat (first | (with_reducible first | exact HB.out | apply below_alloc | apply pw_below_drewN | apply below_drew1 | refine below_set ?_ GE346.out) | exact HB.out)))); have n4_ := Aside0.mk (blk_below (g := gb346) (o := .cells #[.int .i64 a0_0, .int .u64 a0_1, .int .u64 a0_2, .slice A0_3 l0_3.length c0_3] 88 (0, 0)) (by (with_reducible repeat (first | refine blk_drewN ?_ _ | refine blk_drew ?_ | refine blk_alloc ?_ _)); exact BK346.out) hb); have n5_ := Aside0.mk (below_step (by repeat (first | (with_reducible first | exact HB.out | apply below_alloc | apply pw_below_drewN | apply below_drew1 | refine below_set ?_ GE346.out) | exact HB.out)) hb); clear HO0_3; clear HO362; clear HO365; clear BK346; clear HB; have HO0_3 := n0_; have HO362 := n1_; have HO365 := n2_; have HO368 := n3_; have BK346 := n4_; have HB := n5_; clear n0_ n1_ n2_ n3_ n4_ n5_; clear hb ho31; obtain ⟨Ao32, co32, eo32⟩ := Kd.V_slice HO365.out; subst eo32) | ((with_reducible refine gate_callee (f := 65) rfl ?_); refine goesL_ (some 29) rfl rfl Tryd.func65 (by kernel_rfl) rfl #[.slice Ao32 t363.length co32] rfl (by (try simp only [List.map_toArray, List.map_cons, List.map_nil]); first | done | rfl | (simp only [List.length_drop, List.length_take]; rfl)) ?_; (with_reducible refine (wire_Crc.calls k _ _ t363 t369 _ ?side1 ?side2 A8.out).mono ?_); (case side1 => repeat (first | exact (Kd.V_reads' HO365.out).2.2 | (with_reducible refine Kd.C_alloc ?_ _) | (with_reducible refine Kd.C_drewN ?_ _) | (with_reducible refine Kd.C_drew ?_))); (case side2 => exact (Kd.V_reads' HO365.out).2.1); rintro e w' ⟨rfl, ⟨nd, rfl⟩⟩; refine ⟨_, rfl, ?_⟩) | ((with_reducible refine gate_callee (f := 64) rfl ?_); refine goesL_ (some 30) rfl rfl Tryd.func64 (by kernel_rfl) rfl #[.int .u32 t369] rfl (by (try simp only [List.map_toArray, List.map_cons, List.map_nil]); first | done | rfl | (simp only [List.length_drop, List.length_take]; rfl)) ?_; (with_reducible refine (wire_Four.calls t369 t370 _ A9.out).mono ?_); rintro e w33 ⟨v371, rfl, ho0, hb⟩; refine ⟨_, rfl, ?_⟩; have n0_ := Aside0.mk (Kd.V_elder' (by (with_reducible repeat (first | apply Kd.V_alloc | apply Kd.V_drewN | apply Kd.V_drew)); exact HO0_3.out) (Kd.R_base ho0) hb); have n1_ := Aside0.mk (Kd.N_elder' (by (with_reducible repeat (first | apply Kd.N_alloc | apply Kd.N_drewN | apply Kd.N_drew)); exact HO362.out) (Kd.R_base ho0) hb); have n2_ := Aside0.mk (Kd.V_elder' (by (with_reducible repeat (first | apply Kd.V_alloc | apply Kd.V_drewN | apply Kd.V_drew)); exact HO365.out) (Kd.R_base ho0) hb); have n3_ := Aside0.mk (Kd.R_elder' (by (with_reducible repeat (first | apply Kd.R_alloc | apply Kd.R_drewN | apply Kd.R_drew)); exact HO368.out) (Kd.R_base ho0) hb); have n4_ := Aside0.mk (Kd.R_lower (Kd.R_new' (Kd.R_newM (M := fun k_ => (w.heap.size ≤ k_)) ho0 (below_size (by repeat (first | (with_reducible first | exact HB.out | apply below_alloc | apply pw_below_drewN | apply below_drew1 | refine below_set ?_ GE346.out) | exact HB.out))) (fun k_ h_ => h_)) (Kd.R_lt (by (with_reducible repeat (first | apply Kd.R_alloc | apply Kd.R_drewN | apply Kd.R_drew)); exact HO368.out))) (below_size (by repeat (first | (with_reducible first | exact HB.out | apply below_alloc | apply pw_below_drewN | apply below_drew1 | refine below_set ?_ GE346.out) | exact HB.out)))); have n5_ := Aside0.mk (blk_below (g := gb346) (o := .cells #[.int .i64 a0_0, .int .u64 a0_1, .int .u64 a0_2, .slice A0_3 l0_3.length c0_3] 88 (0, 0)) (by (with_reducible repeat (first | refine blk_drewN ?_ _ | refine blk_drew ?_ | refine blk_alloc ?_ _)); exact BK346.out) hb); have n6_ := Aside0.mk (below_step (by repeat (first | (with_reducible first | exact HB.out | apply below_alloc | apply pw_below_drewN | apply below_drew1 | refine below_set ?_ GE346.out) | exact HB.out)) hb); clear HO0_3; clear HO362; clear HO365; clear HO368; clear BK346; clear HB; have HO0_3 := n0_; have HO362 := n1_; have HO365 := n2_; have HO368 := n3_; have HO372 := n4_; have BK346 := n5_; have HB := n6_; clear n0_ n1_ n2_ n3_ n4_ n5_ n6_; (try clear hb); (try clear hb2); (try clear hk); (try clear hi); (try clear ho0); obtain ⟨Ao35, co35, eo35⟩ := Kd.R_slice HO372.out; subst eo35) | ((with_reducible refine gate_builtin (b := .append) (xs := #[.tmp 27, .tmp 30]) rfl ?_); at_builtin; refine Kd.R_append_rows (Kd.int .u8) (w0 := w) w.heap.size rfl (.tmp 27) (.tmp 30) 64 5 (.int .u8 0) 1 rfl Tryd.underlying64 info5 rfl (by decide) (by omega) v367 y366 t370 _ _ _ (fun k_ => (w.heap.size ≤ k_) ∧ some k_ ≠ (.slice Ao35 t370.length co35 : Value).ownBlock) (fun _ => False) rfl rfl ?aO ?aR (fun _ _ h => h) (fun _ h => h.elim) ?aF ?aB ?aS ?aL ?_; (case aR => repeat (first | exact (Kd.R_reads' HO372.out).2.2 | (with_reducible refine Kd.C_alloc ?_ _) | (with_reducible refine Kd.C_drewN ?_ _) | (with_reducible refine Kd.C_drew ?_))); (case aB => exact (by repeat (first | (with_reducible first | exact HB.out | apply below_alloc | apply pw_below_drewN | apply below_drew1 | refine below_set ?_ GE346.out) | exact HB.out))); (case aF => exact (fun k_ hk => ⟨(Nat.le_trans (below_size (by repeat (first | (with_reducible first | exact HB.out | apply below_alloc | apply pw_below_drewN | apply below_drew1 | refine below_set ?_ GE346.out) | exact HB.out))) hk), Kd.fresh' (Kd.R_lt (by (with_reducible repeat (first | apply Kd.R_alloc | apply Kd.R_drewN | apply Kd.R_drew)); exact HO372.out)) k_ hk⟩)); (case aO => exact (by (with_reducible repeat (first | apply Kd.R_alloc | apply Kd.R_drewN | apply Kd.R_drew)); exact Kd.R_mono HO368.out (fun _ hk => (by first | exact hk | (simp only [hk, ne_eq, not_false_eq_true, and_self, true_and, and_true, or_true, true_or]; done))))); (case aS => exact (below_size (by repeat (first | (with_reducible first | exact HB.out | apply below_alloc | apply pw_below_drewN | apply below_drew1 | refine below_set ?_ GE346.out) | exact HB.out)))); (case aL => have := LMc10.out; omega); intro v374 w34 ho hb hg hat; rw [← Ny373.out] at ho; have n0_ := Aside0.mk (Kd.V_afterv (ok := (fun k_ => (P0_3_ k_ ∨ w.heap.size ≤ k_) ∧ some k_ ≠ (.slice Ao35 t370.length co35 : Value).ownBlock ∧ k_ ≠ gb346)) (by (with_reducible repeat (first | apply Kd.V_alloc | apply Kd.V_drewN | apply Kd.V_drew)); exact Kd.V_mono HO0_3.out (fun _ hk => (by first | exact hk | (simp only [hk, ne_eq, not_false_eq_true, and_self, true_and, and_true, or_true, true_or]; done)))) hg hat); have n1_ := Aside0.mk (blk_grown (g := gb346) (o := .cells #[.int .i64 a0_0, .int .u64 a0_1, .int .u64 a0_2, .slice A0_3 l0_3.length c0_3] 88 (0, 0)) (by (with_reducible repeat (first | refine blk_drewN ?_ _ | refine blk_drew ?_ | refine blk_alloc ?_ _)); exact BK346.out) hg (Kd.R_ne HO368.out BK346.out (by decide))); have n2_ := Aside0.mk (Kd.N_afterv (ok := (fun k_ => (P0_3_ k_ ∨ w.heap.size ≤ k_) ∧ some k_ ≠ (.slice Ao35 t370.length co35 : Value).ownBlock ∧ k_ ≠ gb346)) (by (with_reducible repeat (first | apply Kd.N_alloc | apply Kd.N_drewN | apply Kd.N_drew)); exact Kd.N_mono HO362.out (fun _ hk => (by first | exact hk | (simp only [hk, ne_eq, not_false_eq_true, and_self, true_and, and_true, or_true, true_or]; done)))) hg hat); have n3_ := Aside0.mk (Kd.V_afterv (ok := (fun k_ => (P0_3_ k_ ∨ w.heap.size ≤ k_) ∧ some k_ ≠ (.slice Ao35 t370.length co35 : Value).ownBlock ∧ k_ ≠ gb346)) (by (with_reducible repeat (first | apply Kd.V_alloc | apply Kd.V_drewN | apply Kd.V_drew)); exact Kd.V_mono HO365.out (fun _ hk => (by first | exact hk | (simp only [hk, ne_eq, not_false_eq_true, and_self, true_and, and_true, or_true, true_or]; done)))) hg hat); have n4_ := Aside0.mk (Kd.R_after (ok := (fun k_ => (w.heap.size ≤ k_))) (by (with_reducible repeat (first | apply Kd.R_alloc | apply Kd.R_drewN | apply Kd.R_drew)); exact Kd.R_mono HO372.out (fun _ hk => (by first | exact hk | (simp only [hk, ne_eq, not_false_eq_true, and_self, true_and, and_true, or_true, true_or]; done)))) hg hat); have n5_ := Aside0.mk (hb); have n6_ := Aside0.mk (ho); clear HO0_3; clear BK346; clear HO362; clear HO365; clear HO372; clear HB; clear HO368; have HO0_3 := n0_; have BK346 := n1_; have HO362 := n2_; have HO365 := n3_; have HO372 := n4_; have HB := n5_; have HO375 := n6_; clear n0_ n1_ n2_ n3_ n4_ n5_ n6_; clear ho hb hg hat) | ((with_reducible refine gate_builtin (b := .append) (xs := #[.tmp 31, .tmp 32]) rfl ?_); at_builtin; refine Kd.R_append_rows (Kd.int .u8) (w0 := w) w.heap.size rfl (.tmp 31) (.tmp 32) 64 5 (.int .u8 0) 1 rfl Tryd.underlying64 info5 rfl (by decide) (by omega) v374 y373 t363 _ _ _ (fun k_ => (w.heap.size ≤ k_) ∧ some k_ ≠ (.slice Ao35 t370.length co35 : Value).ownBlock) (fun _ => False) rfl rfl ?aO ?aR (fun _ _ h => h) (fun _ h => h.elim) ?aF ?aB ?aS ?aL ?_; (case aR => repeat (first | exact (Kd.V_reads' HO365.out).2.2 | (with_reducible refine Kd.C_alloc ?_ _) | (with_reducible refine Kd.C_drewN ?_ _) | (with_reducible refine Kd.C_drew ?_))); (case aB => exact (by repeat (first | (with_reducible first | exact HB.out | apply below_alloc | apply pw_below_drewN | apply below_drew1 | refine below_set ?_ GE346.out) | exact HB.out))); (case aF => exact (fun k_ hk => ⟨(Nat.le_trans (below_size (by repeat (first | (with_reducible first | exact HB.out | apply below_alloc | apply pw_below_drewN | apply below_drew1 | refine below_set ?_ GE346.out) | exact HB.out))) hk), Kd.fresh' (Kd.R_lt (by (with_reducible repeat (first | apply Kd.R_alloc | apply Kd.R_drewN | apply Kd.R_drew)); exact HO372.out)) k_ hk⟩)); (case aO => exact (by (with_reducible repeat (first | apply Kd.R_alloc | apply Kd.R_drewN | apply Kd.R_drew)); exact HO375.out)); (case aS => exact (below_size (by repeat (first | (with_reducible first | exact HB.out | apply below_alloc | apply pw_below_drewN | apply below_drew1 | refine below_set ?_ GE346.out) | exact HB.out)))); (case aL => have := LMc11.out; omega); intro v377 w36 ho hb hg hat; rw [← Ny376.out] at ho; have n0_ := Aside0.mk (Kd.V_afterv (ok := (fun k_ => (P0_3_ k_ ∨ w.heap.size ≤ k_) ∧ some k_ ≠ (.slice Ao35 t370.length co35 : Value).ownBlock ∧ k_ ≠ gb346)) (by (with_reducible repeat (first | apply Kd.V_alloc | apply Kd.V_drewN | apply Kd.V_drew)); exact HO0_3.out) hg hat); have n1_ := Aside0.mk (blk_grown (g := gb346) (o := .cells #[.int .i64 a0_0, .int .u64 a0_1, .int .u64 a0_2, .slice A0_3 l0_3.length c0_3] 88 (0, 0)) (by (with_reducible repeat (first | refine blk_drewN ?_ _ | refine blk_drew ?_ | refine blk_alloc ?_ _)); exact BK346.out) hg (Kd.R_ne HO375.out BK346.out (by decide))); have n2_ := Aside0.mk (Kd.N_afterv (ok := (fun k_ => (P0_3_ k_ ∨ w.heap.size ≤ k_) ∧ some k_ ≠ (.slice Ao35 t370.length co35 : Value).ownBlock ∧ k_ ≠ gb346)) (by (with_reducible repeat (first | apply Kd.N_alloc | apply Kd.N_drewN | apply Kd.N_drew)); exact HO362.out) hg hat); have n3_ := Aside0.mk (Kd.V_afterv (ok := (fun k_ => (P0_3_ k_ ∨ w.heap.size ≤ k_) ∧ some k_ ≠ (.slice Ao35 t370.length co35 : Value).ownBlock ∧ k_ ≠ gb346)) (by (with_reducible repeat (first | apply Kd.V_alloc | apply Kd.V_drewN | apply Kd.V_drew)); exact HO365.out) hg hat); have n4_ := Aside0.mk (Kd.R_after (ok := (fun k_ => (w.heap.size ≤ k_))) (by (with_reducible repeat (first | apply Kd.R_alloc | apply Kd.R_drewN | apply Kd.R_drew)); exact HO372.out) hg hat); have n5_ := Aside0.mk (hb); have n6_ := Aside0.mk (ho); clear HO0_3; clear BK346; clear HO362; clear HO365; clear HO372; clear HB; clear HO375; have HO0_3 := n0_; have BK346 := n1_; have HO362 := n2_; have HO365 := n3_; have HO372 := n4_; have HB := n5_; have HO378 := n6_; clear n0_ n1_ n2_ n3_ n4_ n5_ n6_; clear ho hb hg hat))
    go_ret2
    exact ⟨_, by first | rfl | (simp [errW_none, errW_some] <;> rfl) | (simp [*, errW_none, errW_some] <;> rfl), by (with_reducible repeat (first | apply Kd.R_alloc | apply Kd.R_drewN | apply Kd.R_drew)); exact Kd.R_mono HO378.out (fun _ hk => (by first | exact hk | (simp only [hk, ne_eq, not_false_eq_true, and_self, true_and, and_true, or_true, true_or]; done))), by repeat (first | (with_reducible first | exact HB.out | apply below_alloc | apply pw_below_drewN | apply below_drew1 | refine below_set ?_ GE346.out) | exact HB.out)⟩
   ·rw [if_neg c11] at H
    exact absurd H (by simp)
  ·rw [if_neg c10] at H
   exact absurd H (by simp)
 ·replace c3 := Bool.eq_false_iff.mpr c3
  subst c3
  have H1 : (some (([] : List Int), 1)) = some (r1, r2) := by rw [if_neg (show ¬ (false = true) by decide)] at H; exact H
  clear H
  have H := H1
  clear H1
  simp only [Option.some.injEq, Prod.mk.injEq] at H
  obtain ⟨rfl, rfl⟩ := H
  go_enter Tryd.func43, Tryd.ntmps43
  go_wp2_with (first | ((with_reducible refine gate_dst (N := 1) rfl ?_); refine box_event ?hg (N := 1) ?hd (cs := #[.int .i64 a0_0, .int .u64 a0_1, .int .u64 a0_2, .slice A0_3 l0_3.length c0_3]) (t := 88) ?hr ?_; (case hd => rfl); (case hg => rfl); (case hr => first | (go_simp; done) | (go_simp; rfl)); intro gb346 hg w37 hbox hb; have n0_ := Aside0.mk (Kd.V_below (Kd.V_elderB (by (with_reducible repeat (first | apply Kd.V_alloc | apply Kd.V_drewN | apply Kd.V_drew)); exact HO0_3.out) gb346 (Nat.le_of_eq hg.symm)) hb); have n1_ := Aside0.mk (below_step (by repeat (first | (with_reducible first | exact HB.out | apply below_alloc | apply pw_below_drewN | apply below_drew1) | exact HB.out)) hb); have n2_ := Aside0.mk (hbox); have n3_ := Aside0.mk ((by rw [hg]; exact (below_size (by repeat (first | (with_reducible first | exact HB.out | apply below_alloc | apply pw_below_drewN | apply below_drew1) | exact HB.out))) : w.heap.size ≤ gb346)); have n4_ := Aside0.mk ((by rw [hg]; exact (below_size (by repeat (first | (with_reducible first | exact HB.out | apply below_alloc | apply pw_below_drewN | apply below_drew1) | exact HB.out))) : w.heap.size ≤ gb346)); clear HO0_3; clear HB; have HO0_3 := n0_; have HB := n1_; have BK346 := n2_; have GW346 := n3_; have GE346 := n4_; clear n0_ n1_ n2_ n3_ n4_; clear hb hbox hg; have hcz38_0 : w37.cell? ⟨gb346, 0, none⟩ = some (.int .i64 a0_0) := (blk_cell BK346.out 0).trans rfl; have hcz38_1 : w37.cell? ⟨gb346, 1, none⟩ = some (.int .u64 a0_1) := (blk_cell BK346.out 1).trans rfl; have hcz38_2 : w37.cell? ⟨gb346, 2, none⟩ = some (.int .u64 a0_2) := (blk_cell BK346.out 2).trans rfl; have hcz38_3 : w37.cell? ⟨gb346, 3, none⟩ = some (.slice A0_3 l0_3.length c0_3) := (blk_cell BK346.out 3).trans rfl; have hfz38_0 := blk_frozen BK346.out 0; have hfz38_1 := blk_frozen BK346.out 1; have hfz38_2 := blk_frozen BK346.out 2; have hfz38_3 := blk_frozen BK346.out 3) | ((with_reducible refine gate_callee (f := 79) rfl ?_); refine goesL_ (some 6) rfl rfl Tryd.func79 (by kernel_rfl) rfl #[.agg #[.int .i64 a0_0, .int .u64 a0_1, .int .u64 a0_2, .slice A0_3 l0_3.length c0_3]] rfl (by (try simp only [List.map_toArray, List.map_cons, List.map_nil]); first | done | rfl | (simp only [List.length_drop, List.length_take]; rfl)) ?_; (with_reducible refine (rec_May.calls a0_0 a0_1 a0_2 _ _ l0_3 false _ ?side1 ?side2 A2.out).mono ?_); (case side1 => repeat (first | exact (Kd.V_reads' HO0_3.out).2.2 | (with_reducible refine Kd.C_alloc ?_ _) | (with_reducible refine Kd.C_drewN ?_ _) | (with_reducible refine Kd.C_drew ?_))); (case side2 => exact (Kd.V_reads' HO0_3.out).2.1); rintro e w39 ⟨rfl, hb⟩; refine ⟨_, rfl, ?_⟩; have n0_ := Aside0.mk (Kd.V_below (by (with_reducible repeat (first | apply Kd.V_alloc | apply Kd.V_drewN | apply Kd.V_drew)); exact HO0_3.out) hb); have n1_ := Aside0.mk (blk_below (g := gb346) (o := .cells #[.int .i64 a0_0, .int .u64 a0_1, .int .u64 a0_2, .slice A0_3 l0_3.length c0_3] 88 (0, 0)) (by (with_reducible repeat (first | refine blk_drewN ?_ _ | refine blk_drew ?_ | refine blk_alloc ?_ _)); exact BK346.out) hb); have n2_ := Aside0.mk (below_step (by repeat (first | (with_reducible first | exact HB.out | apply below_alloc | apply pw_below_drewN | apply below_drew1 | refine below_set ?_ GE346.out) | exact HB.out)) hb); clear HO0_3; clear BK346; clear HB; have HO0_3 := n0_; have BK346 := n1_; have HB := n2_; clear n0_ n1_ n2_; (try clear hb); (try clear hb2); (try clear hk); (try clear hi)))
  go_ret2
  exact ⟨_, by first | rfl | (simp [errW_none, errW_some] <;> rfl) | (simp [*, errW_none, errW_some] <;> rfl), by first | exact Kd.R_nil _ _ _ _ _ | exact Kd.N_nil _ _ _ _ _ | exact Kd.V_nil _ _ _ _ _ | exact Kd.Q_nil _ _ _ _ _ | exact Kd.S_nil _ _ _ _ _, by repeat (first | (with_reducible first | exact HB.out | apply below_alloc | apply pw_below_drewN | apply below_drew1 | refine below_set ?_ GE346.out) | exact HB.out)⟩
end Go.Proofs.YtlgfmmkabnbllaaDoor.PS
namespace Go.Proofs.YtlgfmmkabnbllaaDoor.Hand
open Go.RowKit Go.Proofs.YtlgfmmkabnbllaaDoorW.PrintWords Go.Proofs.YtlgfmmkabnbllaaDoorW.PrintLast Go.Proofs.YtlgfmmkabnbllaaDoorW.PrintMore Go.Proofs.YtlgfmmkabnbllaaDoor.PA Go.Proofs.YtlgfmmkabnbllaaDoor.PS
theorem enc_bytes {k s t : Int} {b : List Int} (h : MayR k s t b) (hb : Bytes255 b) : Bytes255 (encL k s t b) := by
  have hb1 := h.b1
  have hk : 0 ≤ k ∧ k < 256 := by rcases h.may.1 with h | h <;> omega
  intro x hx
  simp only [encL, bodyL, List.mem_cons, List.mem_append] at hx
  rcases hx with rfl | rfl | hx | rfl | hx | hx | hx | hx
  · omega
  · omega
  · exact four_bytes _ x hx
  · exact hk
  · exact varL_bytes s h.s0 h.s1 x hx
  · exact varL_bytes t h.t0 h.t1 x hx
  · exact varL_bytes _ (by omega) (by omega) x hx
  · exact hb x hx
theorem body_bytes {k s t : Int} {b : List Int} (h : MayR k s t b) (hb : Bytes255 b) : Bytes255 (bodyL k s t b) := fun x hx => enc_bytes h hb x (by simp [encL, hx])
theorem enc_small {k s t : Int} {b : List Int} (h : MayR k s t b) (hl : b.length ≤ 3000) : (encL k s t b).length ≤ 3040 ∧ (bodyL k s t b).length ≤ 3040 := by
  have h1 := varL_len s h.s0 h.s1
  have h2 := varL_len t h.t0 h.t1
  have h3 := varL_len (b.length : Int) (by omega) (by omega)
  simp only [encL, bodyL, fourL, List.length_cons, List.length_append, List.length_nil]
  omega
theorem enc_f (k : Nat) (a0 a1 a2 : Int) (l : List Int) (h1 : 0 ≤ a1 ∧ a1 < 18446744073709551616) (h2 : 0 ≤ a2 ∧ a2 < 18446744073709551616) (hb : Bytes255 l) (hl : l.length ≤ 3000) (hk : 40000 ≤ k) :
    rec_Encode.f k a0 a1 a2 l = some (if mayL a0 a1 a2 l.length then (encL a0 a1 a2 l, 0) else ([], 1)) := by
  unfold rec_Encode.f
  rw [may_f, Option.bind_some]
  by_cases hm : mayL a0 a1 a2 l.length
  case neg => rw [decide_eq_false hm, if_neg hm]; exact if_neg (by simp)
  rw [decide_eq_true hm, if_pos hm]
  refine (if_pos rfl).trans ?_
  have hM : MayR a0 a1 a2 l := ⟨hm, h1.1, h2.1⟩
  have hw : IntKind.u64.wrap (l.length : Int) = (l.length : Int) := IntWalk.u64_in _ (by omega)
  have h0 : a0 % 256 = a0 := by rcases hm.1 with h | h <;> omega
  have hs := enc_small hM hl
  have hbb := body_bytes hM hb
  have hj : bytes_Join.f [[a0], varL 9 a1, varL 9 a2, varL 9 (l.length : Int), l] [] = some (bodyL a0 a1 a2 l) := by
    have e : ([[a0], varL 9 a1, varL 9 a2, varL 9 (l.length : Int), l] : List (List Int)).flatten = bodyL a0 a1 a2 l := by simp [bodyL]
    unfold bytes_Join.f
    rw [e]
    exact if_pos ⟨by simp, by simp, rfl, List.all_eq_true.2 (fun x hx => byteB_iff.2 (hbb x hx)), by omega⟩
  have hc := wireCrc_any k (bodyL a0 a1 a2 l) (by omega) hbb (by omega)
  have hf : ∀ c, wire_Four.f c = some (fourL c) := fun _ => rfl
  rw [wireVar_any k (by omega) a1 h1.1 h1.2, Option.bind_some, wireVar_any k (by omega) a2 h2.1 h2.2, Option.bind_some, hw, wireVar_any k (by omega) _ (by omega) (by omega), Option.bind_some, h0, hj, Option.bind_some, Option.bind_some, hc, Option.bind_some, hf, Option.bind_some]
  refine (if_pos (by simp [fourL])).trans ?_
  rw [Option.bind_some]
  refine (if_pos (by simp [fourL]; omega)).trans ?_
  rfl
theorem dec_f (l : List Int) (a : Int) (hb : Bytes255 l) (hl : l.length < 140737488355328) (h0 : 0 ≤ a) (h1 : a ≤ l.length) : rec_Decode.f l a = some (decOut (decV l a)) := by
  unfold rec_Decode.f
  rw [if_pos ⟨List.all_eq_true.2 (fun x hx => byteB_iff.2 (hb x hx)), hl⟩, if_neg (by omega)]
theorem same_f {k s t k' s' t' : Int} {b b' : List Int} (ha : Bytes255 b) (hb : Bytes255 b') : rec_Same.f k s t b k' s' t' b' = some (decide (k = k' ∧ s = s' ∧ t = t' ∧ b = b')) := by
  have e : bytes_Equal.f b b' = some (decide (b = b')) := congrArg some (equal_bytes ha hb)
  unfold rec_Same.f
  rw [e]
  by_cases h1 : k = k' <;> by_cases h2 : s = s' <;> by_cases h3 : t = t' <;> simp [h1, h2, h3]
theorem front_bytes {l : List Int} (h : Bytes255 l) (n : Nat) : Bytes255 (l.take n) := fun x hx => h x (List.mem_of_mem_take hx)
end Go.Proofs.YtlgfmmkabnbllaaDoor.Hand
namespace Go.Proofs.YtlgfmmkabnbllaaDoor.Hand
open Go.RowKit Go.Proofs.YtlgfmmkabnbllaaDoorW.PrintWords Go.Proofs.YtlgfmmkabnbllaaDoorW.PrintLast Go.Proofs.YtlgfmmkabnbllaaDoorW.PrintMore Go.Proofs.YtlgfmmkabnbllaaDoor.PA Go.Proofs.YtlgfmmkabnbllaaDoor.PS
def pre16 (n f : Int) : List Int := 84 :: 84 :: 83 :: 49 :: (fourL (n % 4294967296) ++ (fourL ((f / 4294967296) % 4294967296) ++ fourL (f % 4294967296)))
def hdrL (n f : Int) : List Int := pre16 n f ++ fourL (crcV (pre16 n f))
theorem pre16_len (n f : Int) : (pre16 n f).length = 16 := rfl
theorem hdr_len (n f : Int) : (hdrL n f).length = 20 := rfl
theorem pre16_bytes (n f : Int) : Bytes255 (pre16 n f) := by
  intro x hx
  simp only [pre16, List.mem_cons, List.mem_append] at hx
  rcases hx with rfl | rfl | rfl | rfl | hx | hx | hx
  · omega
  · omega
  · omega
  · omega
  · exact four_bytes _ x hx
  · exact four_bytes _ x hx
  · exact four_bytes _ x hx
theorem hdr_bytes (n f : Int) : Bytes255 (hdrL n f) := by
  intro x hx
  rcases List.mem_append.1 hx with h | h
  · exact pre16_bytes n f x h
  · exact four_bytes _ x h
def MayH (n f : Int) : Prop := 1 ≤ n ∧ n ≤ 999999 ∧ 1 ≤ f ∧ f ≤ 4611686018427387904
instance (n f : Int) : Decidable (MayH n f) := by unfold MayH; infer_instance
theorem header_f (k : Nat) (hk : 300 ≤ k) (n f : Int) : seg_Header.f k n f = some (if MayH n f then (hdrL n f, 0) else ([], 1)) := by
  obtain ⟨k, rfl⟩ : ∃ m, k = m + 1 := ⟨k - 1, by omega⟩
  have ht : seg_Header.j0 (k + 1) true n f = some ([], 1) := rfl
  unfold seg_Header.f
  rw [ht]
  by_cases h1 : n < 1
  · rw [if_pos h1, if_neg (fun h : MayH n f => by have := h.1; omega)]
  by_cases h2 : n > 999999
  · rw [if_neg h1, if_pos h2, if_neg (fun h : MayH n f => by have := h.2.1; omega)]
  by_cases h3 : f < 1
  · rw [if_neg h1, if_neg h2, if_pos h3, if_neg (fun h : MayH n f => by have := h.2.2.1; omega)]
  rw [if_neg h1, if_neg h2, if_neg h3]
  by_cases h4 : f > 4611686018427387904
  · rw [decide_eq_true h4, ht, if_neg (fun h : MayH n f => by have := h.2.2.2; omega)]
  rw [decide_eq_false h4, if_pos ⟨by omega, by omega, by omega, by omega⟩]
  have hf : ∀ c, wire_Four.f c = some (fourL c) := fun _ => rfl
  have hc := wireCrc_any k (pre16 n f) (by rw [pre16_len]; omega) (pre16_bytes n f) (by rw [pre16_len]; omega)
  have e1 : ([84, 84, 83, 49] : List Int) ++ fourL (n % 4294967296) ++ fourL ((f / 4294967296) % 4294967296) ++ fourL (f % 4294967296) = pre16 n f := rfl
  rw [seg_Header.j0, if_neg (by decide), Option.bind_some, hf, Option.bind_some]
  refine (if_pos (by simp [fourL])).trans ?_
  rw [Option.bind_some, hf, Option.bind_some]
  refine (if_pos (by simp [fourL])).trans ?_
  rw [Option.bind_some, hf, Option.bind_some]
  refine (if_pos (by simp [fourL])).trans ?_
  rw [Option.bind_some, e1, hc, Option.bind_some, hf, Option.bind_some]
  exact if_pos (by rw [pre16_len]; simp [fourL])
def valL (n : Int) (l : List Int) : Int := l.foldl (fun n c => n * 256 + c) n
theorem number_l0 (l : List Int) (hb : Bytes255 l) (hl : l.length ≤ 8) : ∀ (m k i : Nat) (n : Int), i + m = l.length → 0 ≤ n → n < ((256 ^ i : Nat) : Int) → seg_number.l0 (k + m + 1) n l (l.length : Int) (i : Int) = some (valL n (l.drop i))
  | 0, k, i, n, hi, h0, h1 => by
    rw [seg_number.l0, if_neg (by omega), List.drop_of_length_le (by omega)]
    rfl
  | m + 1, k, i, n, hi, h0, h1 => by
    have hr := rd_255 hb (i : Int)
    have hp : 256 ^ i ≤ 72057594037927936 := Nat.le_trans (Nat.pow_le_pow_right (by decide) (show i ≤ 7 by omega)) (by decide)
    have hs : 256 ^ (i + 1) = 256 ^ i * 256 := Nat.pow_succ 256 i
    have h3 : n * 256 + rd l (i : Int) < ((256 ^ (i + 1) : Nat) : Int) := by
      rw [hs]
      generalize 256 ^ i = P at *
      omega
    have h2 : n < 72057594037927936 := by
      generalize 256 ^ i = P at *
      omega
    clear hs hp
    rw [seg_number.l0, if_pos (by omega), if_pos (by omega), if_pos (by omega), big_step n _ h0 h2 hr, IntWalk.wrap64_in _ (by omega)]
    have e : ((i : Int) + 1) = ((i + 1 : Nat) : Int) := by omega
    rw [e, rd_cons l i (by omega)]
    exact number_l0 l hb hl m k (i + 1) (n * 256 + rd l (i : Int)) (by omega) (by omega) h3
theorem number_f (k : Nat) (hk : 9 ≤ k) (l : List Int) (hb : Bytes255 l) (hl : l.length ≤ 8) : seg_number.f k l = some (valL 0 l) := by
  obtain ⟨k, rfl⟩ : ∃ m, k = m + l.length + 1 := ⟨k - (l.length + 1), by omega⟩
  have := number_l0 l hb hl l.length k 0 0 (by omega) (by omega) (by decide)
  exact this
theorem val_four (n c : Int) (hc : 0 ≤ c ∧ c < 4294967296) : valL n (fourL c) = n * 4294967296 + c := by
  simp only [valL, fourL, List.foldl]
  omega
theorem head_f (k : Nat) (hk : 300 ≤ k) (n f : Int) (h : MayH n f) (S : List Int) : seg_head.f k (hdrL n f ++ S) = some (n, f, 0) := by
  have h1 := h.1
  have h2 := h.2.1
  have h3 := h.2.2.1
  have h4 := h.2.2.2
  have hl : (hdrL n f ++ S).length = 20 + S.length := by rw [List.length_append, hdr_len]
  have e1 : ((hdrL n f ++ S).take 8).drop 4 = fourL (n % 4294967296) := rfl
  have e2 : ((hdrL n f ++ S).take 16).drop 8 = fourL ((f / 4294967296) % 4294967296) ++ fourL (f % 4294967296) := rfl
  have e3 : (hdrL n f ++ S).take 20 = hdrL n f := by rw [← hdr_len n f, List.take_left]
  have b2 : Bytes255 (fourL ((f / 4294967296) % 4294967296) ++ fourL (f % 4294967296)) := by
    intro x hx
    rcases List.mem_append.1 hx with h | h
    · exact four_bytes _ x h
    · exact four_bytes _ x h
  have v1 : valL 0 (fourL (n % 4294967296)) = n := by rw [val_four _ _ (by omega)]; omega
  have v2 : valL 0 (fourL ((f / 4294967296) % 4294967296) ++ fourL (f % 4294967296)) = f := by
    have : valL 0 (fourL ((f / 4294967296) % 4294967296) ++ fourL (f % 4294967296)) = valL (valL 0 (fourL ((f / 4294967296) % 4294967296))) (fourL (f % 4294967296)) := by
      unfold valL
      rw [List.foldl_append]
    rw [this, val_four _ _ (by omega), val_four _ _ (by omega)]
    omega
  have hq : bytes_Equal.f (hdrL n f) (hdrL n f) = some (decide (hdrL n f = hdrL n f)) := congrArg some (equal_bytes (hdr_bytes n f) (hdr_bytes n f))
  unfold seg_head.f
  rw [e1, e2, e3, number_f k (by omega) _ (four_bytes _) (by simp [fourL]), number_f k (by omega) _ b2 (by simp [fourL]), v1, v2, hl]
  refine (if_neg (by omega)).trans ((if_pos (by omega)).trans ((if_pos (by omega)).trans ?_))
  rw [Option.bind_some]
  refine (if_pos (by omega)).trans ((if_pos (by omega)).trans ?_)
  rw [Option.bind_some, IntWalk.wrap64_in n (by omega), header_f k hk, if_pos h, Option.bind_some]
  refine (if_pos rfl).trans ((if_pos (by omega)).trans ?_)
  rw [hq, Option.bind_some]
  exact if_pos (by simp)
theorem head_short (k : Nat) (l : List Int) (h : l.length < 20) : seg_head.f k l = some (0, 0, 2) := by
  unfold seg_head.f
  exact if_pos (by omega)
end Go.Proofs.YtlgfmmkabnbllaaDoor.Hand
namespace Go.Proofs.YtlgfmmkabnbllaaDoor.Hand
open Go.RowKit Go.Proofs.YtlgfmmkabnbllaaDoorW.PrintWords Go.Proofs.YtlgfmmkabnbllaaDoorW.PrintLast Go.Proofs.YtlgfmmkabnbllaaDoorW.PrintMore Go.Proofs.YtlgfmmkabnbllaaDoor.PA Go.Proofs.YtlgfmmkabnbllaaDoor.PS
abbrev Rc := S88
abbrev Pt := S93
def encR (r : Rc) : List Int := encL r.f0 r.f1 r.f2 r.f3
def MayS (r : Rc) : Prop := MayR r.f0 r.f1 r.f2 r.f3 ∧ Bytes255 r.f3 ∧ r.f3.length ≤ 300
def catR (l : List Rc) : List Int := (l.map encR).flatten
def posR (l : List Rc) (i : Nat) : Int := 20 + ((catR (l.take i)).length : Int)
def atR (l : List Rc) (i : Nat) : Rc := rd_T88 l (i : Int)
def partR (l : List Rc) (i : Nat) : Pt := ⟨atR l i, posR l i, posR l (i + 1)⟩
def partsR (l : List Rc) (i : Nat) : List Pt := (List.range i).map (partR l)
theorem catR_app (a b : List Rc) : catR (a ++ b) = catR a ++ catR b := by simp [catR]
theorem catR_one (r : Rc) : catR [r] = encR r := by simp [catR]
theorem take_at (l : List Rc) (i : Nat) (h : i < l.length) : l.take (i + 1) = l.take i ++ [atR l i] := by
  have : atR l i = l[i] := by
    unfold atR rd_T88
    rw [Int.toNat_natCast, List.getD_eq_getElem?_getD, List.getElem?_eq_getElem h]
    rfl
  rw [this, List.take_add_one, List.getElem?_eq_getElem h]
  rfl
theorem at_mem (l : List Rc) (i : Nat) (h : i < l.length) : atR l i ∈ l := by
  unfold atR rd_T88
  rw [Int.toNat_natCast, List.getD_eq_getElem?_getD, List.getElem?_eq_getElem h]
  exact List.getElem_mem h
theorem pos_succ (l : List Rc) (i : Nat) (h : i < l.length) : posR l (i + 1) = posR l i + ((encR (atR l i)).length : Int) := by
  unfold posR
  rw [take_at l i h, catR_app, catR_one, List.length_append]
  omega
theorem pos_zero (l : List Rc) : posR l 0 = 20 := rfl
theorem enc_seven (r : Rc) : 7 ≤ (encR r).length := by unfold encR; rw [enc_len]; omega
theorem pos_lt (l : List Rc) (i : Nat) (h : i < l.length) : posR l i < posR l (i + 1) := by
  have := enc_seven (atR l i)
  rw [pos_succ l i h]
  omega
theorem pos_mono (l : List Rc) (i : Nat) : ∀ m, i + m ≤ l.length → posR l i ≤ posR l (i + m)
  | 0, _ => by simp
  | m + 1, h => by
    have h1 := pos_mono l i m (by omega)
    have h2 := pos_lt l (i + m) (by omega)
    have e : i + (m + 1) = i + m + 1 := rfl
    rw [e]
    omega
theorem pos_le (l : List Rc) {i j : Nat} (h : i ≤ j) (hj : j ≤ l.length) : posR l i ≤ posR l j := by
  obtain ⟨m, rfl⟩ : ∃ m, j = i + m := ⟨j - i, by omega⟩
  exact pos_mono l i m hj
theorem pos_all (l : List Rc) : posR l l.length = 20 + ((catR l).length : Int) := by unfold posR; rw [List.take_of_length_le (Nat.le_refl _)]
theorem parts_len (l : List Rc) (i : Nat) : (partsR l i).length = i := by simp [partsR]
theorem parts_succ (l : List Rc) (i : Nat) : partsR l (i + 1) = partsR l i ++ [partR l i] := by simp [partsR, List.range_succ]
theorem parts_at (l : List Rc) (n j : Nat) (h : j < n) : rd_T93 (partsR l n) (j : Int) = partR l j := by
  unfold rd_T93 partsR
  rw [Int.toNat_natCast, List.getD_eq_getElem?_getD, List.getElem?_map, List.getElem?_range h]
  rfl
theorem cat_at (l : List Rc) (i : Nat) (h : i < l.length) : catR l = catR (l.take i) ++ (encR (atR l i) ++ catR (l.drop (i + 1))) := by
  conv => lhs; rw [← List.take_append_drop (i + 1) l]
  rw [catR_app, take_at l i h, catR_app, catR_one, List.append_assoc]
structure OkFile (f : Int) (l : List Rc) : Prop where
  f0 : 1 ≤ f
  f1 : f ≤ 4611686018427387904
  may : ∀ i, i < l.length → MayS (atR l i)
  seq : ∀ i, i < l.length → (atR l i).f1 = f + (i : Int)
  key : 0 < l.length → (atR l 0).f0 = 1
  time : ∀ i, i + 1 < l.length → (atR l i).f2 ≤ (atR l (i + 1)).f2
theorem next_f {f : Int} {l : List Rc} (h : OkFile f l) (n g : Int) (i : Nat) (hi : i < l.length) (hl : l.length ≤ 30) :
    seg_Scan_next.f n f (partsR l i) g (atR l i).f0 (atR l i).f1 (atR l i).f2 (atR l i).f3 = some true := by
  have hm := (h.may i hi).1.may
  have hs := h.seq i hi
  unfold seg_Scan_next.f
  rw [parts_len]
  rcases Nat.eq_zero_or_pos i with rfl | hp
  · refine (if_pos rfl).trans ((if_pos (h.key hi)).trans ?_)
    rw [hs]
    simp
  · obtain ⟨j, rfl⟩ : ∃ j, i = j + 1 := ⟨i - 1, by omega⟩
    have hw : wrap64 (((j + 1 : Nat) : Int) - 1) = (j : Int) := by rw [IntWalk.wrap64_in _ (by omega)]; omega
    have hs' := h.seq j (by omega)
    have hr : rd_T93 (partsR l (j + 1)) (j : Int) = partR l j := parts_at l (j + 1) j (by omega)
    have hu : IntKind.u64.wrap ((atR l j).f1 + 1) = (atR l (j + 1)).f1 := by
      have := h.f0
      rw [IntWalk.u64_in _ (by have := hm.2.2.1; omega)]
      omega
    rw [hw, hr]
    refine (if_neg (by omega)).trans ((if_pos (by omega)).trans ((if_pos (by omega)).trans ?_))
    have e1 : (partR l j).f0 = atR l j := rfl
    rw [e1, hu, if_pos rfl, decide_eq_true (show (atR l (j + 1)).f2 ≥ (atR l j).f2 from h.time j hi)]
theorem read_run {f n : Int} {l : List Rc} (h : OkFile f l) (hl : l.length ≤ 30) {X H S : List Int} {M : Nat} (hM : M ≤ l.length) (hH : H.length = 20) (hX : X = H ++ (catR (l.take M) ++ S)) (hb : Bytes255 X) (hs : X.length < 140737488355328) :
    ∀ (m k i : Nat), i + m = M → seg_Read.l0 (k + m) X n f (partsR l i) (posR l i) = seg_Read.l0 k X n f (partsR l M) (posR l M)
  | 0, k, i, hi => by
    obtain rfl : i = M := by omega
    rfl
  | m + 1, k, i, hi => by
    have hil : i < l.length := by omega
    have hT : (l.take M).length = M := by rw [List.length_take]; omega
    have ht : atR (l.take M) i = atR l i := by
      unfold atR rd_T88
      rw [Int.toNat_natCast, List.getD_eq_getElem?_getD, List.getD_eq_getElem?_getD, List.getElem?_take_of_lt (by omega)]
    have h1 := cat_at (l.take M) i (by omega)
    rw [ht, List.take_take, Nat.min_eq_left (by omega)] at h1
    have hX2 : X = (H ++ catR (l.take i)) ++ (encR (atR l i) ++ (catR ((l.take M).drop (i + 1)) ++ S)) := by
      rw [hX, h1]
      simp only [List.append_assoc]
    have hp : (((H ++ catR (l.take i)).length : Nat) : Int) = posR l i := by
      rw [List.length_append, hH]
      unfold posR
      omega
    have hd := dec_enc (H ++ catR (l.take i)) (catR ((l.take M).drop (i + 1)) ++ S) (h.may i hil).1
    have e0 : encL (atR l i).f0 (atR l i).f1 (atR l i).f2 (atR l i).f3 = encR (atR l i) := rfl
    rw [e0, ← hX2, hp, ← pos_succ l i hil] at hd
    have hle : posR l i ≤ X.length := by
      rw [← hp]
      have := congrArg List.length hX2
      rw [List.length_append] at this
      omega
    have hdf := dec_f X (posR l i) hb hs (by unfold posR; omega) hle
    rw [hd] at hdf
    have e : k + (m + 1) = k + m + 1 := rfl
    rw [e, seg_Read.l0, hdf, Option.bind_some]
    refine (if_pos rfl).trans ?_
    dsimp only [decOut]
    rw [next_f h n (posR l i) i hil hl, Option.bind_some]
    refine (if_pos rfl).trans ((if_pos (by rw [parts_len]; omega)).trans ?_)
    have e2 : (partsR l i ++ [(⟨(⟨(atR l i).f0, (atR l i).f1, (atR l i).f2, (atR l i).f3⟩ : Rc), posR l i, posR l (i + 1)⟩ : Pt)]) = partsR l (i + 1) := (parts_succ l i).symm
    rw [e2]
    exact read_run h hl hM hH hX hb hs m k (i + 1) (by omega)
theorem dec_err_ne {l : List Int} {a x : Int} (h : decV l a = .error x) : x ≠ 0 := by
  unfold decV at h
  split at h
  case isFalse => injection h with h; omega
  split at h
  case isFalse => injection h with h; omega
  split at h
  case isFalse => injection h with h; omega
  split at h
  case isFalse hq => injection h with h; rw [← h]; exact hq
  split at h
  case isFalse hq => injection h with h; rw [← h]; exact hq
  split at h
  case isFalse hq => injection h with h; rw [← h]; exact hq
  split at h
  case isFalse => injection h with h; omega
  split at h
  case isFalse => injection h with h; omega
  split at h
  case isFalse => injection h with h; omega
  split at h
  case isFalse => injection h with h; omega
  cases h
theorem cut_err {l : List Rc} (hm : ∀ i, i < l.length → MayS (atR l i)) {H : List Int} (hH : H.length = 20) (hb : Bytes255 (H ++ catR l)) {k M : Nat} (hk : k ≤ (H ++ catR l).length) (hM : M ≤ l.length) (h1 : posR l M ≤ k) (h2 : M < l.length → (k : Int) < posR l (M + 1)) :
    ∃ x, decV ((H ++ catR l).take k) (posR l M) = .error x := by
  cases hd : decV ((H ++ catR l).take k) (posR l M) with
  | error x => exact ⟨x, rfl⟩
  | ok r =>
    exfalso
    obtain ⟨a, s, t, b, e⟩ := r
    have hp0 : 0 ≤ posR l M := by unfold posR; omega
    obtain ⟨i1, i2, i3, i4, i5⟩ := dec_inv (front_bytes hb k) hp0 hd
    have htl : ((H ++ catR l).take k).length = k := by rw [List.length_take]; omega
    rw [htl] at i4
    have he7 : 7 ≤ (encL a s t b).length := by rw [enc_len]; omega
    by_cases hMl : M = l.length
    · have := pos_all l
      rw [hMl, this] at i3
      rw [List.length_append, hH] at hk
      omega
    have hMi : M < l.length := by omega
    have hX := cat_at l M hMi
    have hX2 : H ++ catR l = (H ++ catR (l.take M)) ++ (encR (atR l M) ++ catR (l.drop (M + 1))) := by
      conv => lhs; rw [hX]
      simp only [List.append_assoc]
    have hp : (((H ++ catR (l.take M)).length : Nat) : Int) = posR l M := by
      rw [List.length_append, hH]
      unfold posR
      omega
    have hdB := dec_enc (H ++ catR (l.take M)) (catR (l.drop (M + 1))) (hm M hMi).1
    have e0 : encL (atR l M).f0 (atR l M).f1 (atR l M).f2 (atR l M).f3 = encR (atR l M) := rfl
    rw [e0, ← hX2, hp, ← pos_succ l M hMi] at hdB
    have hs : segL (H ++ catR l) (posR l M) e = encL a s t b := by
      rw [← i1]
      unfold segL
      rw [List.take_take, Nat.min_eq_left (by omega)]
    have hsplit : H ++ catR l = (H ++ catR l).take (posR l M).toNat ++ (encL a s t b ++ (H ++ catR l).drop e.toNat) := by
      rw [← hs]
      unfold segL
      rw [← List.append_assoc]
      conv => lhs; rw [← List.take_append_drop e.toNat (H ++ catR l)]
      congr 1
      conv => lhs; rw [← List.take_append_drop (posR l M).toNat ((H ++ catR l).take e.toNat)]
      congr 1
      rw [List.take_take, Nat.min_eq_left (by omega)]
    have hdA := dec_enc ((H ++ catR l).take (posR l M).toNat) ((H ++ catR l).drop e.toNat) i2
    have hpl : ((((H ++ catR l).take (posR l M).toNat).length : Nat) : Int) = posR l M := by rw [List.length_take]; omega
    rw [← hsplit, hpl, ← i3] at hdA
    have := hdA.symm.trans hdB
    injection this with this
    injection this with _ this
    injection this with _ this
    injection this with _ this
    injection this with _ this
    have := h2 hMi
    omega
theorem read_stop {X : List Int} {n f p x : Int} {parts : List Pt} (hb : Bytes255 X) (hs : X.length < 140737488355328) (h0 : 0 ≤ p) (h1 : p ≤ X.length) (h : decV X p = .error x) (k : Nat) :
    seg_Read.l0 (k + 1) X n f parts p = some (n, f, parts, p, 0) := by
  have hdf := dec_f X p hb hs h0 h1
  rw [h] at hdf
  rw [seg_Read.l0, hdf, Option.bind_some]
  exact if_neg (dec_err_ne h)
theorem read_cut {n f : Int} {l : List Rc} (hh : MayH n f) (h : OkFile f l) (hl : l.length ≤ 30) {k M : Nat} (hk : k ≤ (hdrL n f ++ catR l).length) (hM : M ≤ l.length) (h20 : 20 ≤ k) (h1 : posR l M ≤ k) (h2 : M < l.length → (k : Int) < posR l (M + 1))
    (hb : Bytes255 (hdrL n f ++ catR l)) (hs : (hdrL n f ++ catR l).length < 140737488355328) (K : Nat) (hK : 400 ≤ K) :
    seg_Read.f K ((hdrL n f ++ catR l).take k) = some (n, f, partsR l M, posR l M, 0) := by
  obtain ⟨x, hx⟩ := cut_err h.may (hdr_len n f) hb hk hM h1 h2
  have hpM := pos_all (l.take M)
  have hcM : ((catR (l.take M)).length : Int) = posR l M - 20 := by unfold posR; omega
  have hX : (hdrL n f ++ catR l).take k = hdrL n f ++ (catR (l.take M) ++ (catR (l.drop M)).take (k - 20 - (catR (l.take M)).length)) := by
    conv => lhs; rw [← List.take_append_drop M l]
    rw [catR_app, List.take_append, List.take_of_length_le (by rw [hdr_len]; omega), hdr_len, List.take_append, List.take_of_length_le (by omega)]
  have htl : ((hdrL n f ++ catR l).take k).length = k := by rw [List.length_take]; omega
  have hb' := front_bytes hb k
  obtain ⟨j, rfl⟩ : ∃ j, K = j + 1 + M := ⟨K - 1 - M, by omega⟩
  unfold seg_Read.f
  conv => lhs; rw [hX]
  rw [head_f _ (by omega) n f hh, Option.bind_some]
  refine (if_pos rfl).trans ?_
  rw [← hX]
  have hr := read_run (n := n) h hl hM (hdr_len n f) hX hb' (by omega) M (j + 1) 0 (by omega)
  rw [pos_zero] at hr
  refine hr.trans ?_
  exact read_stop hb' (by omega) (by unfold posR; omega) (by omega) hx j
end Go.Proofs.YtlgfmmkabnbllaaDoor.Hand
