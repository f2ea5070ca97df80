-- written for this claim by mp.py (this repo), with the kit's print; checked by the kernel alone
import Derived.Test.YtpebcphkockkkaaDoorPEx0
namespace Go.Proofs.YtpebcphkockkkaaDoor.PE
open Go.RowKit Go.Proofs.YtpebcphkockkkaaDoorW.PrintWords Go.Proofs.YtpebcphkockkkaaDoorW.PrintLast Go.Proofs.YtpebcphkockkkaaDoorW.PrintMore
attribute [local go_sem] max2_int min2_int max_two min_two max_three min_three max_four min_four   -- for this text's walks alone
open Go.Proofs.YtpebcphkockkkaaDoor.Hand
open Go.Proofs.YtpebcphkockkkaaDoor.PD
open Go.Proofs.YtpebcphkockkkaaDoor.PA
set_option linter.unusedVariables false
set_option linter.unusedSimpArgs false

-- NOT PRINTED: function 35 (math_Float64bits)

/-! ### tikref1_Of: function 14 -/
mutual
def tikref1_Of.j0 : Nat → Int → Int → Option (Int × Int × Int)
  | 0, _, _ => none
  | k + 1, x5, x6 => if (wrap64 ((wrap64 (1075 - x6)) - 20)) > 60 then (some (0, 0, 1)) else (if 0 ≤ (IntKind.u64.wrap (wrap64 ((wrap64 (1075 - x6)) - 20))) then (if 0 ≤ (IntKind.u64.wrap (wrap64 ((wrap64 ((wrap64 (1075 - x6)) - 20)) - 1))) then (if (Go.bits .and .u64 x5 (IntKind.u64.wrap ((shl .u64 1 (IntKind.u64.wrap (wrap64 ((wrap64 (1075 - x6)) - 20)))) - 1))) > (shl .u64 1 (IntKind.u64.wrap (wrap64 ((wrap64 ((wrap64 (1075 - x6)) - 20)) - 1)))) then (tikref1_Of.j1 k (shr .u64 x5 (IntKind.u64.wrap (wrap64 ((wrap64 (1075 - x6)) - 20)))) true) else (if (Go.bits .and .u64 x5 (IntKind.u64.wrap ((shl .u64 1 (IntKind.u64.wrap (wrap64 ((wrap64 (1075 - x6)) - 20)))) - 1))) = (shl .u64 1 (IntKind.u64.wrap (wrap64 ((wrap64 ((wrap64 (1075 - x6)) - 20)) - 1)))) then (tikref1_Of.j1 k (shr .u64 x5 (IntKind.u64.wrap (wrap64 ((wrap64 (1075 - x6)) - 20)))) ((Int.tmod (shr .u64 x5 (IntKind.u64.wrap (wrap64 ((wrap64 (1075 - x6)) - 20)))) 2) == 1)) else (tikref1_Of.j1 k (shr .u64 x5 (IntKind.u64.wrap (wrap64 ((wrap64 (1075 - x6)) - 20)))) false))) else (none)) else (none))
def tikref1_Of.j1 : Nat → Int → Bool → Option (Int × Int × Int)
  | 0, _, _ => none
  | k + 1, x8, x72 => if x72 = true then (if (IntKind.u64.wrap (x8 + 1)) = 0 then (some (0, 0, 1)) else ((tikref1_least.f k (IntKind.u64.wrap (x8 + 1))).bind fun bt103 => (some (bt103.1, bt103.2, 0)))) else (if x8 = 0 then (some (0, 0, 1)) else ((tikref1_least.f k x8).bind fun bt105 => (some (bt105.1, bt105.2, 0))))
end
def tikref1_Of.f (k : Nat) (a0 : Nat) : Option (Int × Int × Int) := (tikref1_isNaN.f ((a0 : Nat) : Int)).bind fun t102 => (if t102 = true then (some (0, 0, 10)) else (if (((a0 : Nat) : Int) / 9223372036854775808) = 1 then (some (0, 0, 11)) else (if ((a0 : Nat) : Int) = 0 then (some (0, 1, 0)) else (if ((a0 : Nat) : Int) > 4652218415073722368 then (some (0, 0, 1)) else (if (wrap64 (((a0 : Nat) : Int) / 4503599627370496)) > 0 then (tikref1_Of.j0 k (Go.bits .or .u64 (Go.bits .and .u64 ((a0 : Nat) : Int) 4503599627370495) 4503599627370496) (wrap64 (((a0 : Nat) : Int) / 4503599627370496))) else (tikref1_Of.j0 k (Go.bits .and .u64 ((a0 : Nat) : Int) 4503599627370495) 1))))))
theorem tikref1_Of.mono_l : ∀ k, (∀ y0 y1, LeO (tikref1_Of.j0 k y0 y1) (tikref1_Of.j0 (k + 1) y0 y1)) ∧ (∀ y0 y1, LeO (tikref1_Of.j1 k y0 y1) (tikref1_Of.j1 (k + 1) y0 y1))
  | 0 => ⟨fun _ _ r h => by simp [tikref1_Of.j0] at h, fun _ _ r h => by simp [tikref1_Of.j1] at h⟩
  | k + 1 => by
    obtain ⟨ih0, ih1⟩ := tikref1_Of.mono_l k
    refine ⟨?_, ?_⟩
    · intro y0 y1
      unfold tikref1_Of.j0
      repeat' first
      | (with_reducible exact ih0 _ _)
      | (with_reducible exact ih1 _ _)
      | (with_reducible exact tikref1_least.mono _ _)
      | (with_reducible exact LeO.refl _)
      | (with_reducible exact LeO.none _)
      | (with_reducible refine LeO.ite ?_ ?_)
      | (with_reducible refine LeO.bind ?_ (fun _ => ?_))
      | exact ih0 _ _
      | exact ih1 _ _
      | exact tikref1_least.mono _ _
      | exact LeO.none _
      | refine LeO.ite ?_ ?_
      | refine LeO.bind ?_ (fun _ => ?_)
    · intro y0 y1
      unfold tikref1_Of.j1
      repeat' first
      | (with_reducible exact ih0 _ _)
      | (with_reducible exact ih1 _ _)
      | (with_reducible exact tikref1_least.mono _ _)
      | (with_reducible exact LeO.refl _)
      | (with_reducible exact LeO.none _)
      | (with_reducible refine LeO.ite ?_ ?_)
      | (with_reducible refine LeO.bind ?_ (fun _ => ?_))
      | exact ih0 _ _
      | exact ih1 _ _
      | exact tikref1_least.mono _ _
      | exact LeO.none _
      | refine LeO.ite ?_ ?_
      | refine LeO.bind ?_ (fun _ => ?_)
theorem tikref1_Of.mono : ∀ a0 k, LeO (tikref1_Of.f k a0) (tikref1_Of.f (k + 1) a0) := by
  intro a0 k
  obtain ⟨ih0, ih1⟩ := tikref1_Of.mono_l k
  unfold tikref1_Of.f
  repeat' first
      | (with_reducible exact ih0 _ _)
      | (with_reducible exact ih1 _ _)
      | (with_reducible exact tikref1_least.mono _ _)
      | (with_reducible exact LeO.refl _)
      | (with_reducible exact LeO.none _)
      | (with_reducible refine LeO.ite ?_ ?_)
      | (with_reducible refine LeO.bind ?_ (fun _ => ?_))
      | exact ih0 _ _
      | exact ih1 _ _
      | exact tikref1_least.mono _ _
      | exact LeO.none _
      | refine LeO.ite ?_ ?_
      | refine LeO.bind ?_ (fun _ => ?_)
set_option maxHeartbeats 8000000 in
set_option maxRecDepth 100000 in
theorem tikref1_Of.calls (k : Nat) (a0 : Nat) (r1 : Int) (r2 : Int) (r3 : Int) (w : World) (h : tikref1_Of.f k a0 = some (r1, r2, r3)) :
    Calls Tryd.prog 14 #[.float .f64 a0] w fun e w' => e = .returned (.tuple #[.agg #[.int .u64 r1, .int .u64 r2], .int .i64 r3]) ∧ Below w.heap.size w w' := by
  have hu31 := Tryd.underlying31
  have HB := Aside0.mk (Below.refl w.heap.size w)
  have H : ((tikref1_isNaN.f ((a0 : Nat) : Int)).bind fun t102 => (if t102 = true then (some (0, 0, 10)) else (if (((a0 : Nat) : Int) / 9223372036854775808) = 1 then (some (0, 0, 11)) else (if ((a0 : Nat) : Int) = 0 then (some (0, 1, 0)) else (if ((a0 : Nat) : Int) > 4652218415073722368 then (some (0, 0, 1)) else (if (wrap64 (((a0 : Nat) : Int) / 4503599627370496)) > 0 then (tikref1_Of.j0 k (Go.bits .or .u64 (Go.bits .and .u64 ((a0 : Nat) : Int) 4503599627370495) 4503599627370496) (wrap64 (((a0 : Nat) : Int) / 4503599627370496))) else (tikref1_Of.j0 k (Go.bits .and .u64 ((a0 : Nat) : Int) 4503599627370495) 1))))))) = some (r1, r2, r3) := h
  clear h
  replace H := Option.bind_eq_some_iff.mp H
  obtain ⟨t102, A20, H⟩ := H
  replace H : (if t102 = true then (some (0, 0, 10)) else (if (((a0 : Nat) : Int) / 9223372036854775808) = 1 then (some (0, 0, 11)) else (if ((a0 : Nat) : Int) = 0 then (some (0, 1, 0)) else (if ((a0 : Nat) : Int) > 4652218415073722368 then (some (0, 0, 1)) else (if (wrap64 (((a0 : Nat) : Int) / 4503599627370496)) > 0 then (tikref1_Of.j0 k (Go.bits .or .u64 (Go.bits .and .u64 ((a0 : Nat) : Int) 4503599627370495) 4503599627370496) (wrap64 (((a0 : Nat) : Int) / 4503599627370496))) else (tikref1_Of.j0 k (Go.bits .and .u64 ((a0 : Nat) : Int) 4503599627370495) 1)))))) = some (r1, r2, r3) := H
  have A2 := Aside0.mk A20
  clear A20
  by_cases c3 : t102 = true
  · subst c3
    have H1 : (some (0, 0, 10)) = some (r1, r2, r3) := by rw [if_pos rfl] at H; exact H
    clear H
    have H := H1
    clear H1
    simp only [Option.some.injEq, Prod.mk.injEq] at H
    obtain ⟨rfl, rfl, rfl⟩ := H
    go_enter Tryd.func14, Tryd.ntmps14
    go_wp2_with (first | simp only [bits_run] | ((with_reducible refine gate_dst (N := 2) rfl ?_); refine box_event ?hg (N := 2) ?hd (cs := #[.int .u64 0, .int .u64 0]) (t := 31) ?hr ?_; (case hd => rfl); (case hg => rfl); (case hr => first | (go_simp; done) | (go_simp; rfl)); intro gb101 hg w4 hbox hb; have n0_ := Aside0.mk (below_step (by repeat (first | (with_reducible first | exact HB.out | apply below_alloc | apply pw_below_drewN | apply below_drew1) | exact HB.out)) hb); have n1_ := Aside0.mk (hbox); have n2_ := Aside0.mk ((by rw [hg]; exact (below_size (by repeat (first | (with_reducible first | exact HB.out | apply below_alloc | apply pw_below_drewN | apply below_drew1) | exact HB.out))) : w.heap.size ≤ gb101)); have n3_ := Aside0.mk ((by rw [hg]; exact (below_size (by repeat (first | (with_reducible first | exact HB.out | apply below_alloc | apply pw_below_drewN | apply below_drew1) | exact HB.out))) : w.heap.size ≤ gb101)); clear HB; have HB := n0_; have BK101 := n1_; have GW101 := n2_; have GE101 := n3_; clear n0_ n1_ n2_ n3_; clear hb hbox hg) | ((with_reducible refine gate_callee (f := 36) rfl ?_); refine goesL_ (some 15) rfl rfl Tryd.func36 (by kernel_rfl) rfl #[.int .u64 ((a0 : Nat) : Int)] rfl (by (try simp only [List.map_toArray, List.map_cons, List.map_nil]); first | done | rfl | (simp only [List.length_drop, List.length_take]; rfl)) ?_; (with_reducible refine (tikref1_isNaN.calls ((a0 : Nat) : Int) true _ A2.out).mono ?_); rintro e w' ⟨rfl, ⟨nd, rfl⟩⟩; refine ⟨_, rfl, ?_⟩; (try (rw [drewN_self w4]; generalize hq_ : World.drewN w4 _ = w4; have n0_ : Aside0 (w4.heap[gb101]? = some (.cells #[.int .u64 0, .int .u64 0] 31 (0, 0))) := ⟨by rw [← hq_]; exact (by (with_reducible repeat (first | refine blk_drewN ?_ _ | refine blk_drew ?_ | refine blk_alloc ?_ _)); exact BK101.out)⟩; have n1_ : Aside0 (Below w.heap.size w w4) := ⟨by rw [← hq_]; exact (by repeat (first | (with_reducible first | exact HB.out | apply below_alloc | apply pw_below_drewN | apply below_drew1 | refine below_set ?_ GE101.out) | exact HB.out))⟩; clear BK101 HB hq_; have BK101 := n0_; have HB := n1_; clear n0_ n1_)); have hcz5_0 : w4.cell? ⟨gb101, 0, none⟩ = some (.int .u64 0) := (blk_cell BK101.out 0).trans rfl; have hcz5_1 : w4.cell? ⟨gb101, 1, none⟩ = some (.int .u64 0) := (blk_cell BK101.out 1).trans rfl; have hfz5_0 := blk_frozen BK101.out 0; have hfz5_1 := blk_frozen BK101.out 1))
    refine bodyPost_ret (results_ct rfl _ _ gb101 31 #[.int .u64 0, .int .u64 0] (0, 0) _ rfl (by (with_reducible repeat (first | refine blk_drewN ?_ _ | refine blk_drew ?_ | refine blk_alloc ?_ _)); refine blk_put (cs := #[.int .u64 0, .int .u64 0]) ?_ 1 _ rfl; (with_reducible repeat (first | refine blk_drewN ?_ _ | refine blk_drew ?_ | refine blk_alloc ?_ _)); refine blk_put (cs := #[.int .u64 0, .int .u64 0]) ?_ 0 _ rfl; (with_reducible repeat (first | refine blk_drewN ?_ _ | refine blk_drew ?_ | refine blk_alloc ?_ _)); exact BK101.out) Tryd.underlying31 rfl (by kernel_rfl)) rfl ?_
    exact ⟨by first | rfl | (simp [errW_none, errW_some] <;> rfl) | (simp [*, errW_none, errW_some] <;> rfl), by repeat (first | (with_reducible first | exact HB.out | apply below_alloc | apply pw_below_drewN | apply below_drew1 | refine below_set ?_ GE101.out) | exact HB.out)⟩
  · replace c3 := Bool.eq_false_iff.mpr c3
    subst c3
    have H1 : (if (((a0 : Nat) : Int) / 9223372036854775808) = 1 then (some (0, 0, 11)) else (if ((a0 : Nat) : Int) = 0 then (some (0, 1, 0)) else (if ((a0 : Nat) : Int) > 4652218415073722368 then (some (0, 0, 1)) else (if (wrap64 (((a0 : Nat) : Int) / 4503599627370496)) > 0 then (tikref1_Of.j0 k (Go.bits .or .u64 (Go.bits .and .u64 ((a0 : Nat) : Int) 4503599627370495) 4503599627370496) (wrap64 (((a0 : Nat) : Int) / 4503599627370496))) else (tikref1_Of.j0 k (Go.bits .and .u64 ((a0 : Nat) : Int) 4503599627370495) 1))))) = some (r1, r2, r3) := by rw [if_neg (show ¬ (false = true) by decide)] at H; exact H
    clear H
    have H := H1
    clear H1
    by_cases c6 : (((a0 : Nat) : Int) / 9223372036854775808) = 1
    · rw [if_pos c6] at H
      have c6b0 : ((((a0 : Nat) : Int) / 9223372036854775808) == 1) = true := beq_iff_eq.mpr c6
      have c6b1 : ((((a0 : Nat) : Int) / 9223372036854775808) != 1) = false := bne_eq_false_iff_eq.mpr c6
      clear c6
      simp only [Option.some.injEq, Prod.mk.injEq] at H
      obtain ⟨rfl, rfl, rfl⟩ := H
      go_enter Tryd.func14, Tryd.ntmps14
      go_wp2_with (first | simp only [bits_run] | ((with_reducible refine gate_dst (N := 2) rfl ?_); refine box_event ?hg (N := 2) ?hd (cs := #[.int .u64 0, .int .u64 0]) (t := 31) ?hr ?_; (case hd => rfl); (case hg => rfl); (case hr => first | (go_simp; done) | (go_simp; rfl)); intro gb101 hg w7 hbox hb; have n0_ := Aside0.mk (below_step (by repeat (first | (with_reducible first | exact HB.out | apply below_alloc | apply pw_below_drewN | apply below_drew1) | exact HB.out)) hb); have n1_ := Aside0.mk (hbox); have n2_ := Aside0.mk ((by rw [hg]; exact (below_size (by repeat (first | (with_reducible first | exact HB.out | apply below_alloc | apply pw_below_drewN | apply below_drew1) | exact HB.out))) : w.heap.size ≤ gb101)); have n3_ := Aside0.mk ((by rw [hg]; exact (below_size (by repeat (first | (with_reducible first | exact HB.out | apply below_alloc | apply pw_below_drewN | apply below_drew1) | exact HB.out))) : w.heap.size ≤ gb101)); clear HB; have HB := n0_; have BK101 := n1_; have GW101 := n2_; have GE101 := n3_; clear n0_ n1_ n2_ n3_; clear hb hbox hg) | ((with_reducible refine gate_callee (f := 36) rfl ?_); refine goesL_ (some 15) rfl rfl Tryd.func36 (by kernel_rfl) rfl #[.int .u64 ((a0 : Nat) : Int)] rfl (by (try simp only [List.map_toArray, List.map_cons, List.map_nil]); first | done | rfl | (simp only [List.length_drop, List.length_take]; rfl)) ?_; (with_reducible refine (tikref1_isNaN.calls ((a0 : Nat) : Int) false _ A2.out).mono ?_); rintro e w' ⟨rfl, ⟨nd, rfl⟩⟩; refine ⟨_, rfl, ?_⟩; (try (rw [drewN_self w7]; generalize hq_ : World.drewN w7 _ = w7; have n0_ : Aside0 (w7.heap[gb101]? = some (.cells #[.int .u64 0, .int .u64 0] 31 (0, 0))) := ⟨by rw [← hq_]; exact (by (with_reducible repeat (first | refine blk_drewN ?_ _ | refine blk_drew ?_ | refine blk_alloc ?_ _)); exact BK101.out)⟩; have n1_ : Aside0 (Below w.heap.size w w7) := ⟨by rw [← hq_]; exact (by repeat (first | (with_reducible first | exact HB.out | apply below_alloc | apply pw_below_drewN | apply below_drew1 | refine below_set ?_ GE101.out) | exact HB.out))⟩; clear BK101 HB hq_; have BK101 := n0_; have HB := n1_; clear n0_ n1_)); have hcz8_0 : w7.cell? ⟨gb101, 0, none⟩ = some (.int .u64 0) := (blk_cell BK101.out 0).trans rfl; have hcz8_1 : w7.cell? ⟨gb101, 1, none⟩ = some (.int .u64 0) := (blk_cell BK101.out 1).trans rfl; have hfz8_0 := blk_frozen BK101.out 0; have hfz8_1 := blk_frozen BK101.out 1))
      refine bodyPost_ret (results_ct rfl _ _ gb101 31 #[.int .u64 0, .int .u64 0] (0, 0) _ rfl (by (with_reducible repeat (first | refine blk_drewN ?_ _ | refine blk_drew ?_ | refine blk_alloc ?_ _)); refine blk_put (cs := #[.int .u64 0, .int .u64 0]) ?_ 1 _ rfl; (with_reducible repeat (first | refine blk_drewN ?_ _ | refine blk_drew ?_ | refine blk_alloc ?_ _)); refine blk_put (cs := #[.int .u64 0, .int .u64 0]) ?_ 0 _ rfl; (with_reducible repeat (first | refine blk_drewN ?_ _ | refine blk_drew ?_ | refine blk_alloc ?_ _)); exact BK101.out) Tryd.underlying31 rfl (by kernel_rfl)) rfl ?_
      exact ⟨by first | rfl | (simp [errW_none, errW_some] <;> rfl) | (simp [*, errW_none, errW_some] <;> rfl), by repeat (first | (with_reducible first | exact HB.out | apply below_alloc | apply pw_below_drewN | apply below_drew1 | refine below_set ?_ GE101.out) | exact HB.out)⟩
    · rw [if_neg c6] at H
      have c6b0 : ((((a0 : Nat) : Int) / 9223372036854775808) == 1) = false := beq_eq_false_iff_ne.mpr c6
      have c6b1 : ((((a0 : Nat) : Int) / 9223372036854775808) != 1) = true := bne_iff_ne.mpr c6
      by_cases c9 : ((a0 : Nat) : Int) = 0
      · rw [if_pos c9] at H
        have c9b0 : (((a0 : Nat) : Int) == 0) = true := beq_iff_eq.mpr c9
        have c9b1 : (((a0 : Nat) : Int) != 0) = false := bne_eq_false_iff_eq.mpr c9
        clear c9
        simp only [Option.some.injEq, Prod.mk.injEq] at H
        obtain ⟨rfl, rfl, rfl⟩ := H
        go_enter Tryd.func14, Tryd.ntmps14
        go_wp2_with (first | simp only [bits_run] | ((with_reducible refine gate_dst (N := 2) rfl ?_); refine box_event ?hg (N := 2) ?hd (cs := #[.int .u64 0, .int .u64 0]) (t := 31) ?hr ?_; (case hd => rfl); (case hg => rfl); (case hr => first | (go_simp; done) | (go_simp; rfl)); intro gb101 hg w10 hbox hb; have n0_ := Aside0.mk (below_step (by repeat (first | (with_reducible first | exact HB.out | apply below_alloc | apply pw_below_drewN | apply below_drew1) | exact HB.out)) hb); have n1_ := Aside0.mk (hbox); have n2_ := Aside0.mk ((by rw [hg]; exact (below_size (by repeat (first | (with_reducible first | exact HB.out | apply below_alloc | apply pw_below_drewN | apply below_drew1) | exact HB.out))) : w.heap.size ≤ gb101)); have n3_ := Aside0.mk ((by rw [hg]; exact (below_size (by repeat (first | (with_reducible first | exact HB.out | apply below_alloc | apply pw_below_drewN | apply below_drew1) | exact HB.out))) : w.heap.size ≤ gb101)); clear HB; have HB := n0_; have BK101 := n1_; have GW101 := n2_; have GE101 := n3_; clear n0_ n1_ n2_ n3_; clear hb hbox hg) | ((with_reducible refine gate_callee (f := 36) rfl ?_); refine goesL_ (some 15) rfl rfl Tryd.func36 (by kernel_rfl) rfl #[.int .u64 ((a0 : Nat) : Int)] rfl (by (try simp only [List.map_toArray, List.map_cons, List.map_nil]); first | done | rfl | (simp only [List.length_drop, List.length_take]; rfl)) ?_; (with_reducible refine (tikref1_isNaN.calls ((a0 : Nat) : Int) false _ A2.out).mono ?_); rintro e w' ⟨rfl, ⟨nd, rfl⟩⟩; refine ⟨_, rfl, ?_⟩; (try (rw [drewN_self w10]; generalize hq_ : World.drewN w10 _ = w10; have n0_ : Aside0 (w10.heap[gb101]? = some (.cells #[.int .u64 0, .int .u64 0] 31 (0, 0))) := ⟨by rw [← hq_]; exact (by (with_reducible repeat (first | refine blk_drewN ?_ _ | refine blk_drew ?_ | refine blk_alloc ?_ _)); exact BK101.out)⟩; have n1_ : Aside0 (Below w.heap.size w w10) := ⟨by rw [← hq_]; exact (by repeat (first | (with_reducible first | exact HB.out | apply below_alloc | apply pw_below_drewN | apply below_drew1 | refine below_set ?_ GE101.out) | exact HB.out))⟩; clear BK101 HB hq_; have BK101 := n0_; have HB := n1_; clear n0_ n1_)); have hcz11_0 : w10.cell? ⟨gb101, 0, none⟩ = some (.int .u64 0) := (blk_cell BK101.out 0).trans rfl; have hcz11_1 : w10.cell? ⟨gb101, 1, none⟩ = some (.int .u64 0) := (blk_cell BK101.out 1).trans rfl; have hfz11_0 := blk_frozen BK101.out 0; have hfz11_1 := blk_frozen BK101.out 1))
        refine bodyPost_ret (results_ct rfl _ _ gb101 31 #[.int .u64 0, .int .u64 1] (0, 0) _ rfl (by (with_reducible repeat (first | refine blk_drewN ?_ _ | refine blk_drew ?_ | refine blk_alloc ?_ _)); refine blk_put (cs := #[.int .u64 0, .int .u64 0]) ?_ 1 _ rfl; (with_reducible repeat (first | refine blk_drewN ?_ _ | refine blk_drew ?_ | refine blk_alloc ?_ _)); refine blk_put (cs := #[.int .u64 0, .int .u64 0]) ?_ 0 _ rfl; (with_reducible repeat (first | refine blk_drewN ?_ _ | refine blk_drew ?_ | refine blk_alloc ?_ _)); exact BK101.out) Tryd.underlying31 rfl (by kernel_rfl)) rfl ?_
        exact ⟨by first | rfl | (simp [errW_none, errW_some] <;> rfl) | (simp [*, errW_none, errW_some] <;> rfl), by repeat (first | (with_reducible first | exact HB.out | apply below_alloc | apply pw_below_drewN | apply below_drew1 | refine below_set ?_ GE101.out) | exact HB.out)⟩
      · rw [if_neg c9] at H
        have c9b0 : (((a0 : Nat) : Int) == 0) = false := beq_eq_false_iff_ne.mpr c9
        have c9b1 : (((a0 : Nat) : Int) != 0) = true := bne_iff_ne.mpr c9
        by_cases c12 : ((a0 : Nat) : Int) > 4652218415073722368
        · rw [if_pos c12] at H
          have c12b0 : decide (4652218415073722368 < ((a0 : Nat) : Int)) = true := decide_eq_true c12
          clear c12
          simp only [Option.some.injEq, Prod.mk.injEq] at H
          obtain ⟨rfl, rfl, rfl⟩ := H
          go_enter Tryd.func14, Tryd.ntmps14
          go_wp2_with (first | simp only [bits_run] | ((with_reducible refine gate_dst (N := 2) rfl ?_); refine box_event ?hg (N := 2) ?hd (cs := #[.int .u64 0, .int .u64 0]) (t := 31) ?hr ?_; (case hd => rfl); (case hg => rfl); (case hr => first | (go_simp; done) | (go_simp; rfl)); intro gb101 hg w13 hbox hb; have n0_ := Aside0.mk (below_step (by repeat (first | (with_reducible first | exact HB.out | apply below_alloc | apply pw_below_drewN | apply below_drew1) | exact HB.out)) hb); have n1_ := Aside0.mk (hbox); have n2_ := Aside0.mk ((by rw [hg]; exact (below_size (by repeat (first | (with_reducible first | exact HB.out | apply below_alloc | apply pw_below_drewN | apply below_drew1) | exact HB.out))) : w.heap.size ≤ gb101)); have n3_ := Aside0.mk ((by rw [hg]; exact (below_size (by repeat (first | (with_reducible first | exact HB.out | apply below_alloc | apply pw_below_drewN | apply below_drew1) | exact HB.out))) : w.heap.size ≤ gb101)); clear HB; have HB := n0_; have BK101 := n1_; have GW101 := n2_; have GE101 := n3_; clear n0_ n1_ n2_ n3_; clear hb hbox hg) | ((with_reducible refine gate_callee (f := 36) rfl ?_); refine goesL_ (some 15) rfl rfl Tryd.func36 (by kernel_rfl) rfl #[.int .u64 ((a0 : Nat) : Int)] rfl (by (try simp only [List.map_toArray, List.map_cons, List.map_nil]); first | done | rfl | (simp only [List.length_drop, List.length_take]; rfl)) ?_; (with_reducible refine (tikref1_isNaN.calls ((a0 : Nat) : Int) false _ A2.out).mono ?_); rintro e w' ⟨rfl, ⟨nd, rfl⟩⟩; refine ⟨_, rfl, ?_⟩; (try (rw [drewN_self w13]; generalize hq_ : World.drewN w13 _ = w13; have n0_ : Aside0 (w13.heap[gb101]? = some (.cells #[.int .u64 0, .int .u64 0] 31 (0, 0))) := ⟨by rw [← hq_]; exact (by (with_reducible repeat (first | refine blk_drewN ?_ _ | refine blk_drew ?_ | refine blk_alloc ?_ _)); exact BK101.out)⟩; have n1_ : Aside0 (Below w.heap.size w w13) := ⟨by rw [← hq_]; exact (by repeat (first | (with_reducible first | exact HB.out | apply below_alloc | apply pw_below_drewN | apply below_drew1 | refine below_set ?_ GE101.out) | exact HB.out))⟩; clear BK101 HB hq_; have BK101 := n0_; have HB := n1_; clear n0_ n1_)); have hcz14_0 : w13.cell? ⟨gb101, 0, none⟩ = some (.int .u64 0) := (blk_cell BK101.out 0).trans rfl; have hcz14_1 : w13.cell? ⟨gb101, 1, none⟩ = some (.int .u64 0) := (blk_cell BK101.out 1).trans rfl; have hfz14_0 := blk_frozen BK101.out 0; have hfz14_1 := blk_frozen BK101.out 1))
          refine bodyPost_ret (results_ct rfl _ _ gb101 31 #[.int .u64 0, .int .u64 0] (0, 0) _ rfl (by (with_reducible repeat (first | refine blk_drewN ?_ _ | refine blk_drew ?_ | refine blk_alloc ?_ _)); refine blk_put (cs := #[.int .u64 0, .int .u64 0]) ?_ 1 _ rfl; (with_reducible repeat (first | refine blk_drewN ?_ _ | refine blk_drew ?_ | refine blk_alloc ?_ _)); refine blk_put (cs := #[.int .u64 0, .int .u64 0]) ?_ 0 _ rfl; (with_reducible repeat (first | refine blk_drewN ?_ _ | refine blk_drew ?_ | refine blk_alloc ?_ _)); exact BK101.out) Tryd.underlying31 rfl (by kernel_rfl)) rfl ?_
          exact ⟨by first | rfl | (simp [errW_none, errW_some] <;> rfl) | (simp [*, errW_none, errW_some] <;> rfl), by repeat (first | (with_reducible first | exact HB.out | apply below_alloc | apply pw_below_drewN | apply below_drew1 | refine below_set ?_ GE101.out) | exact HB.out)⟩
        · rw [if_neg c12] at H
          have c12b0 : decide (4652218415073722368 < ((a0 : Nat) : Int)) = false := decide_eq_false c12
          clear c12
          have HC15 := Aside0.mk H
          clear H
          go_enter Tryd.func14, Tryd.ntmps14
          go_upto_if 37 with (first | simp only [bits_run] | ((with_reducible refine gate_dst (N := 2) rfl ?_); refine box_event ?hg (N := 2) ?hd (cs := #[.int .u64 0, .int .u64 0]) (t := 31) ?hr ?_; (case hd => rfl); (case hg => rfl); (case hr => first | (go_simp; done) | (go_simp; rfl)); intro gb101 hg w16 hbox hb; have n0_ := Aside0.mk (below_step (by repeat (first | (with_reducible first | exact HB.out | apply below_alloc | apply pw_below_drewN | apply below_drew1) | exact HB.out)) hb); have n1_ := Aside0.mk (hbox); have n2_ := Aside0.mk ((by rw [hg]; exact (below_size (by repeat (first | (with_reducible first | exact HB.out | apply below_alloc | apply pw_below_drewN | apply below_drew1) | exact HB.out))) : w.heap.size ≤ gb101)); have n3_ := Aside0.mk ((by rw [hg]; exact (below_size (by repeat (first | (with_reducible first | exact HB.out | apply below_alloc | apply pw_below_drewN | apply below_drew1) | exact HB.out))) : w.heap.size ≤ gb101)); clear HB; have HB := n0_; have BK101 := n1_; have GW101 := n2_; have GE101 := n3_; clear n0_ n1_ n2_ n3_; clear hb hbox hg) | ((with_reducible refine gate_callee (f := 36) rfl ?_); refine goesL_ (some 15) rfl rfl Tryd.func36 (by kernel_rfl) rfl #[.int .u64 ((a0 : Nat) : Int)] rfl (by (try simp only [List.map_toArray, List.map_cons, List.map_nil]); first | done | rfl | (simp only [List.length_drop, List.length_take]; rfl)) ?_; (with_reducible refine (tikref1_isNaN.calls ((a0 : Nat) : Int) false _ A2.out).mono ?_); rintro e w' ⟨rfl, ⟨nd, rfl⟩⟩; refine ⟨_, rfl, ?_⟩))
          (try simp only [Act.put, List.setIfInBounds_toArray, List.set_cons_zero, List.set_cons_succ])
          go_cut [5, 6] (fun v5 v6 wc => ∃ (kq : Nat) (x5_14 : Int) (x6_14 : Int), v5 = .int .u64 x5_14 ∧ v6 = .int .i64 x6_14 ∧ Aside0 (tikref1_Of.j0 kq x5_14 x6_14 = some (r1, r2, r3)) ∧ Aside0 (kq ≤ k) ∧ Aside0 (wc.heap[gb101]? = some (.cells #[.int .u64 0, .int .u64 0] 31 (0, 0))) ∧ Aside0 (Below w.heap.size w wc))
          case first =>
            have H := HC15.out
            clear HC15
            by_cases c17 : (wrap64 (((a0 : Nat) : Int) / 4503599627370496)) > 0
            · rw [if_pos c17] at H
              have c17b0 : decide (0 < (wrap64 (((a0 : Nat) : Int) / 4503599627370496))) = true := decide_eq_true c17
              clear c17
              (first | rw [c17b0] | (simp only [i64_w, i32_w]; rw [c17b0]) | skip)
              have H' := Aside0.mk H
              clear H
              go_wp2_with (simp only [bits_run])
              go_meet
              case rel => exact ⟨_, (Go.bits .or .u64 (Go.bits .and .u64 ((a0 : Nat) : Int) 4503599627370495) 4503599627370496), (wrap64 (((a0 : Nat) : Int) / 4503599627370496)), (by first | rfl | (simp; done) | (simp [*]; done)), (by first | rfl | (simp; done) | (simp [*]; done)), H', ⟨by first | omega | exact Nat.le_refl _⟩, ⟨by (with_reducible repeat (first | refine blk_drewN ?_ _ | refine blk_drew ?_ | refine blk_alloc ?_ _)); exact BK101.out⟩, ⟨by repeat (first | (with_reducible first | exact HB.out | apply below_alloc | apply pw_below_drewN | apply below_drew1 | refine below_set ?_ GE101.out) | exact HB.out)⟩⟩
            · rw [if_neg c17] at H
              have c17b0 : decide (0 < (wrap64 (((a0 : Nat) : Int) / 4503599627370496))) = false := decide_eq_false c17
              clear c17
              (first | rw [c17b0] | (simp only [i64_w, i32_w]; rw [c17b0]) | skip)
              have H' := Aside0.mk H
              clear H
              go_wp2_with (simp only [bits_run])
              go_meet
              case rel => exact ⟨_, (Go.bits .and .u64 ((a0 : Nat) : Int) 4503599627370495), (1), (by first | rfl | (simp; done) | (simp [*]; done)), (by first | rfl | (simp; done) | (simp [*]; done)), H', ⟨by first | omega | exact Nat.le_refl _⟩, ⟨by (with_reducible repeat (first | refine blk_drewN ?_ _ | refine blk_drew ?_ | refine blk_alloc ?_ _)); exact BK101.out⟩, ⟨by repeat (first | (with_reducible first | exact HB.out | apply below_alloc | apply pw_below_drewN | apply below_drew1 | refine below_set ?_ GE101.out) | exact HB.out)⟩⟩
          case rest =>
            clear HC15
            try clear c1
            try clear p2
            try clear c3
            try clear c6
            try clear c6b0
            try clear c6b1
            try clear p6
            try clear c9
            try clear c9b0
            try clear c9b1
            try clear c12
            try clear c12b0
            try clear c14
            try clear c17
            try clear c17b0
            try clear hcz11_0
            try clear hcz11_1
            try clear hcz14_0
            try clear hcz14_1
            try clear hcz5_0
            try clear hcz5_1
            try clear hcz8_0
            try clear hcz8_1
            try clear hfz11_0
            try clear hfz11_1
            try clear hfz14_0
            try clear hfz14_1
            try clear hfz5_0
            try clear hfz5_1
            try clear hfz8_0
            try clear hfz8_1
            obtain ⟨kq, x5_14, x6_14, rfl, rfl, HA, HJ14, BK101, HB⟩ := hcut
            cases kq with
            | zero => exact absurd HA.out (by simp [tikref1_Of.j0])
            | succ kj14 =>
              have H := HA.out
              clear HA
              simp only [tikref1_Of.j0] at H
              by_cases c18 : (wrap64 ((wrap64 (1075 - x6_14)) - 20)) > 60
              · rw [if_pos c18] at H
                have c18b0 : decide (60 < (wrap64 ((wrap64 (1075 - x6_14)) - 20))) = true := decide_eq_true c18
                clear c18
                simp only [Option.some.injEq, Prod.mk.injEq] at H
                obtain ⟨rfl, rfl, rfl⟩ := H
                have hcz19_0 : wc.cell? ⟨gb101, 0, none⟩ = some (.int .u64 0) := (blk_cell BK101.out 0).trans rfl
                have hcz19_1 : wc.cell? ⟨gb101, 1, none⟩ = some (.int .u64 0) := (blk_cell BK101.out 1).trans rfl
                have hfz19_0 := blk_frozen BK101.out 0
                have hfz19_1 := blk_frozen BK101.out 1
                go_wp2_with (simp only [bits_run])
                refine bodyPost_ret (results_ct rfl _ _ gb101 31 #[.int .u64 0, .int .u64 0] (0, 0) _ rfl (by (with_reducible repeat (first | refine blk_drewN ?_ _ | refine blk_drew ?_ | refine blk_alloc ?_ _)); refine blk_put (cs := #[.int .u64 0, .int .u64 0]) ?_ 1 _ rfl; (with_reducible repeat (first | refine blk_drewN ?_ _ | refine blk_drew ?_ | refine blk_alloc ?_ _)); refine blk_put (cs := #[.int .u64 0, .int .u64 0]) ?_ 0 _ rfl; (with_reducible repeat (first | refine blk_drewN ?_ _ | refine blk_drew ?_ | refine blk_alloc ?_ _)); exact BK101.out) Tryd.underlying31 rfl (by kernel_rfl)) rfl ?_
                exact ⟨by first | rfl | (simp [errW_none, errW_some] <;> rfl) | (simp [*, errW_none, errW_some] <;> rfl), by repeat (first | (with_reducible first | exact HB.out | apply below_alloc | apply pw_below_drewN | apply below_drew1 | refine below_set ?_ GE101.out) | exact HB.out)⟩
              · rw [if_neg c18] at H
                have c18b0 : decide (60 < (wrap64 ((wrap64 (1075 - x6_14)) - 20))) = false := decide_eq_false c18
                clear c18
                obtain ⟨ji20, hji20⟩ : ∃ j_ : Int, (IntKind.u64.wrap (wrap64 ((wrap64 (1075 - x6_14)) - 20))) = j_ := ⟨_, rfl⟩
                replace H : (if 0 ≤ (ji20) then (if 0 ≤ (IntKind.u64.wrap (wrap64 ((wrap64 ((wrap64 (1075 - x6_14)) - 20)) - 1))) then (if (Go.bits .and .u64 x5_14 (IntKind.u64.wrap ((shl .u64 1 (ji20)) - 1))) > (shl .u64 1 (IntKind.u64.wrap (wrap64 ((wrap64 ((wrap64 (1075 - x6_14)) - 20)) - 1)))) then (tikref1_Of.j1 kj14 (shr .u64 x5_14 (ji20)) true) else (if (Go.bits .and .u64 x5_14 (IntKind.u64.wrap ((shl .u64 1 (ji20)) - 1))) = (shl .u64 1 (IntKind.u64.wrap (wrap64 ((wrap64 ((wrap64 (1075 - x6_14)) - 20)) - 1)))) then (tikref1_Of.j1 kj14 (shr .u64 x5_14 (ji20)) ((Int.tmod (shr .u64 x5_14 (ji20)) 2) == 1)) else (tikref1_Of.j1 kj14 (shr .u64 x5_14 (ji20)) false))) else (none)) else (none)) = some (r1, r2, r3) := by first | (rw [hji20] at H; exact H) | (simp only [hji20] at H ⊢; exact H)
                by_cases c21 : 0 ≤ (ji20)
                · rw [if_pos c21] at H
                  have c21b0 := eq_true c21
                  have c21b1 : decide (0 ≤ (ji20)) = true := decide_eq_true c21
                  clear c21
                  obtain ⟨ji22, hji22⟩ : ∃ j_ : Int, (shr .u64 x5_14 (ji20)) = j_ := ⟨_, rfl⟩
                  replace H : (if 0 ≤ (IntKind.u64.wrap (wrap64 ((wrap64 ((wrap64 (1075 - x6_14)) - 20)) - 1))) then (if (Go.bits .and .u64 x5_14 (IntKind.u64.wrap ((shl .u64 1 (ji20)) - 1))) > (shl .u64 1 (IntKind.u64.wrap (wrap64 ((wrap64 ((wrap64 (1075 - x6_14)) - 20)) - 1)))) then (tikref1_Of.j1 kj14 ji22 true) else (if (Go.bits .and .u64 x5_14 (IntKind.u64.wrap ((shl .u64 1 (ji20)) - 1))) = (shl .u64 1 (IntKind.u64.wrap (wrap64 ((wrap64 ((wrap64 (1075 - x6_14)) - 20)) - 1)))) then (tikref1_Of.j1 kj14 ji22 ((Int.tmod (ji22) 2) == 1)) else (tikref1_Of.j1 kj14 ji22 false))) else (none)) = some (r1, r2, r3) := by first | (rw [hji22] at H; exact H) | (simp only [hji22] at H ⊢; exact H)
                  have hji22_ : (x5_14 / 2 ^ min (ji20).toNat 64) = ji22 := hji22
                  have hji22z : (ji20) ≤ 64 → (x5_14 / 2 ^ (ji20).toNat) = ji22 := shr_small hji22
                  have c23b0 := eq_true (of_decide_eq_true (by first | (with_reducible assumption) | assumption) : 0 ≤ (ji20))
                  obtain ⟨ji24, hji24⟩ : ∃ j_ : Int, (shl .u64 1 (ji20)) = j_ := ⟨_, rfl⟩
                  replace H : (if 0 ≤ (IntKind.u64.wrap (wrap64 ((wrap64 ((wrap64 (1075 - x6_14)) - 20)) - 1))) then (if (Go.bits .and .u64 x5_14 (IntKind.u64.wrap ((ji24) - 1))) > (shl .u64 1 (IntKind.u64.wrap (wrap64 ((wrap64 ((wrap64 (1075 - x6_14)) - 20)) - 1)))) then (tikref1_Of.j1 kj14 ji22 true) else (if (Go.bits .and .u64 x5_14 (IntKind.u64.wrap ((ji24) - 1))) = (shl .u64 1 (IntKind.u64.wrap (wrap64 ((wrap64 ((wrap64 (1075 - x6_14)) - 20)) - 1)))) then (tikref1_Of.j1 kj14 ji22 ((Int.tmod (ji22) 2) == 1)) else (tikref1_Of.j1 kj14 ji22 false))) else (none)) = some (r1, r2, r3) := by first | (rw [hji24] at H; exact H) | (simp only [hji24] at H ⊢; exact H)
                  have hji24_ : (IntKind.u64.wrap (1 * 2 ^ min (ji20).toNat 64)) = ji24 := hji24
                  have hji24z : (ji20) ≤ 64 → (IntKind.u64.wrap (1 * 2 ^ (ji20).toNat)) = ji24 := shl_small hji24
                  have hji24u : (IntKind.u64.wrap (2 ^ min (ji20).toNat 64)) = ji24 := by have h_ := hji24_; rw [Int.one_mul] at h_; exact h_
                  have hji24v : (ji20) ≤ 64 → (IntKind.u64.wrap (2 ^ (ji20).toNat)) = ji24 := fun hle_ => by have h_ := hji24z hle_; rw [Int.one_mul] at h_; exact h_
                  obtain ⟨ji25, hji25⟩ : ∃ j_ : Int, (IntKind.u64.wrap (wrap64 ((wrap64 ((wrap64 (1075 - x6_14)) - 20)) - 1))) = j_ := ⟨_, rfl⟩
                  replace H : (if 0 ≤ (ji25) then (if (Go.bits .and .u64 x5_14 (IntKind.u64.wrap ((ji24) - 1))) > (shl .u64 1 (ji25)) then (tikref1_Of.j1 kj14 ji22 true) else (if (Go.bits .and .u64 x5_14 (IntKind.u64.wrap ((ji24) - 1))) = (shl .u64 1 (ji25)) then (tikref1_Of.j1 kj14 ji22 ((Int.tmod (ji22) 2) == 1)) else (tikref1_Of.j1 kj14 ji22 false))) else (none)) = some (r1, r2, r3) := by first | (rw [hji25] at H; exact H) | (simp only [hji25] at H ⊢; exact H)
                  by_cases c26 : 0 ≤ (ji25)
                  · rw [if_pos c26] at H
                    have c26b0 := eq_true c26
                    have c26b1 : decide (0 ≤ (ji25)) = true := decide_eq_true c26
                    clear c26
                    obtain ⟨ji27, hji27⟩ : ∃ j_ : Int, (shl .u64 1 (ji25)) = j_ := ⟨_, rfl⟩
                    replace H : (if (Go.bits .and .u64 x5_14 (IntKind.u64.wrap ((ji24) - 1))) > (ji27) then (tikref1_Of.j1 kj14 ji22 true) else (if (Go.bits .and .u64 x5_14 (IntKind.u64.wrap ((ji24) - 1))) = (ji27) then (tikref1_Of.j1 kj14 ji22 ((Int.tmod (ji22) 2) == 1)) else (tikref1_Of.j1 kj14 ji22 false))) = some (r1, r2, r3) := by first | (rw [hji27] at H; exact H) | (simp only [hji27] at H ⊢; exact H)
                    have hji27_ : (IntKind.u64.wrap (1 * 2 ^ min (ji25).toNat 64)) = ji27 := hji27
                    have hji27z : (ji25) ≤ 64 → (IntKind.u64.wrap (1 * 2 ^ (ji25).toNat)) = ji27 := shl_small hji27
                    have hji27u : (IntKind.u64.wrap (2 ^ min (ji25).toNat 64)) = ji27 := by have h_ := hji27_; rw [Int.one_mul] at h_; exact h_
                    have hji27v : (ji25) ≤ 64 → (IntKind.u64.wrap (2 ^ (ji25).toNat)) = ji27 := fun hle_ => by have h_ := hji27z hle_; rw [Int.one_mul] at h_; exact h_
                    have HC28 := Aside0.mk H
                    clear H
                    go_upto_region 18 with (simp only [bits_run])
                    go_cut [72] (fun v72 wc => ∃ (kq : Nat) (x72_27 : Bool), v72 = .bool x72_27 ∧ Aside0 (tikref1_Of.j1 kq ji22 x72_27 = some (r1, r2, r3)) ∧ Aside0 (kq ≤ kj14) ∧ Aside0 (wc.heap[gb101]? = some (.cells #[.int .u64 0, .int .u64 0] 31 (0, 0))) ∧ Aside0 (Below w.heap.size w wc))
                    case first =>
                      have H := HC28.out
                      clear HC28
                      by_cases c29 : (Go.bits .and .u64 x5_14 (IntKind.u64.wrap ((ji24) - 1))) > (ji27)
                      · rw [if_pos c29] at H
                        have c29b0 : decide ((ji27) < (Go.bits .and .u64 x5_14 (IntKind.u64.wrap ((ji24) - 1)))) = true := decide_eq_true c29
                        clear c29
                        (first | rw [c29b0] | (simp only [i64_w, i32_w]; rw [c29b0]) | skip)
                        have H' := Aside0.mk H
                        clear H
                        go_wp2_with (simp only [bits_run])
                        go_meet
                        case rel => exact ⟨_, (true), (by first | rfl | (simp; done) | (simp [*]; done)), H', ⟨by have := HJ14.out; first | omega | exact Nat.le_refl _⟩, ⟨by (with_reducible repeat (first | refine blk_drewN ?_ _ | refine blk_drew ?_ | refine blk_alloc ?_ _)); exact BK101.out⟩, ⟨by repeat (first | (with_reducible first | exact HB.out | apply below_alloc | apply pw_below_drewN | apply below_drew1 | refine below_set ?_ GE101.out) | exact HB.out)⟩⟩
                      · rw [if_neg c29] at H
                        have c29b0 : decide ((ji27) < (Go.bits .and .u64 x5_14 (IntKind.u64.wrap ((ji24) - 1)))) = false := decide_eq_false c29
                        clear c29
                        (first | rw [c29b0] | (simp only [i64_w, i32_w]; rw [c29b0]) | skip)
                        by_cases c30 : (Go.bits .and .u64 x5_14 (IntKind.u64.wrap ((ji24) - 1))) = (ji27)
                        · rw [if_pos c30] at H
                          have c30b0 : ((Go.bits .and .u64 x5_14 (IntKind.u64.wrap ((ji24) - 1))) == (ji27)) = true := beq_iff_eq.mpr c30
                          have c30b1 : ((Go.bits .and .u64 x5_14 (IntKind.u64.wrap ((ji24) - 1))) != (ji27)) = false := bne_eq_false_iff_eq.mpr c30
                          clear c30
                          have H' := Aside0.mk H
                          clear H
                          go_wp2_with (simp only [bits_run])
                          go_meet
                          case rel => exact ⟨_, (((Int.tmod (ji22) 2) == 1)), (by first | rfl | (simp; done) | (simp only [← hji22] <;> (first | rfl | simp)) | (simp [*]; done)), H', ⟨by have := HJ14.out; first | omega | exact Nat.le_refl _⟩, ⟨by (with_reducible repeat (first | refine blk_drewN ?_ _ | refine blk_drew ?_ | refine blk_alloc ?_ _)); exact BK101.out⟩, ⟨by repeat (first | (with_reducible first | exact HB.out | apply below_alloc | apply pw_below_drewN | apply below_drew1 | refine below_set ?_ GE101.out) | exact HB.out)⟩⟩
                        · rw [if_neg c30] at H
                          have c30b0 : ((Go.bits .and .u64 x5_14 (IntKind.u64.wrap ((ji24) - 1))) == (ji27)) = false := beq_eq_false_iff_ne.mpr c30
                          have c30b1 : ((Go.bits .and .u64 x5_14 (IntKind.u64.wrap ((ji24) - 1))) != (ji27)) = true := bne_iff_ne.mpr c30
                          have H' := Aside0.mk H
                          clear H
                          go_wp2_with (simp only [bits_run])
                          go_meet
                          case rel => exact ⟨_, (false), (by first | rfl | (simp; done) | (simp [*]; done)), H', ⟨by have := HJ14.out; first | omega | exact Nat.le_refl _⟩, ⟨by (with_reducible repeat (first | refine blk_drewN ?_ _ | refine blk_drew ?_ | refine blk_alloc ?_ _)); exact BK101.out⟩, ⟨by repeat (first | (with_reducible first | exact HB.out | apply below_alloc | apply pw_below_drewN | apply below_drew1 | refine below_set ?_ GE101.out) | exact HB.out)⟩⟩
                    case rest =>
                      clear HC28
                      try clear c1
                      try clear c2
                      try clear p2
                      try clear c3
                      try clear c6
                      try clear c6b0
                      try clear c6b1
                      try clear p6
                      try clear c9
                      try clear c9b0
                      try clear c9b1
                      try clear c12
                      try clear c12b0
                      try clear c14
                      try clear c17
                      try clear c17b0
                      try clear c18
                      try clear c18b0
                      try clear c21
                      try clear c21b0
                      try clear c21b1
                      try clear c23
                      try clear c23b0
                      try clear c26
                      try clear c26b0
                      try clear c26b1
                      try clear c29
                      try clear c29b0
                      try clear c30
                      try clear c30b0
                      try clear c30b1
                      try clear hcz11_0
                      try clear hcz11_1
                      try clear hcz14_0
                      try clear hcz14_1
                      try clear hcz19_0
                      try clear hcz19_1
                      try clear hcz5_0
                      try clear hcz5_1
                      try clear hcz8_0
                      try clear hcz8_1
                      try clear hfz11_0
                      try clear hfz11_1
                      try clear hfz14_0
                      try clear hfz14_1
                      try clear hfz19_0
                      try clear hfz19_1
                      try clear hfz5_0
                      try clear hfz5_1
                      try clear hfz8_0
                      try clear hfz8_1
                      try clear p2
                      try clear p6
                      obtain ⟨kq, x72_27, rfl, HA, HJ27, BK101, HB⟩ := hcut
                      cases kq with
                      | zero => exact absurd HA.out (by simp [tikref1_Of.j1])
                      | succ kj27 =>
                        have H := HA.out
                        clear HA
                        simp only [tikref1_Of.j1] at H
                        by_cases c31 : x72_27 = true
                        · subst c31
                          have H1 : (if (IntKind.u64.wrap (ji22 + 1)) = 0 then (some (0, 0, 1)) else ((tikref1_least.f kj27 (IntKind.u64.wrap (ji22 + 1))).bind fun bt103 => (some (bt103.1, bt103.2, 0)))) = some (r1, r2, r3) := by rw [if_pos rfl] at H; exact H
                          clear H
                          have H := H1
                          clear H1
                          by_cases c32 : (IntKind.u64.wrap (ji22 + 1)) = 0
                          · rw [if_pos c32] at H
                            have c32b0 : ((IntKind.u64.wrap (ji22 + 1)) == 0) = true := beq_iff_eq.mpr c32
                            have c32b1 : ((IntKind.u64.wrap (ji22 + 1)) != 0) = false := bne_eq_false_iff_eq.mpr c32
                            clear c32
                            simp only [Option.some.injEq, Prod.mk.injEq] at H
                            obtain ⟨rfl, rfl, rfl⟩ := H
                            have hcz33_0 : wc.cell? ⟨gb101, 0, none⟩ = some (.int .u64 0) := (blk_cell BK101.out 0).trans rfl
                            have hcz33_1 : wc.cell? ⟨gb101, 1, none⟩ = some (.int .u64 0) := (blk_cell BK101.out 1).trans rfl
                            have hfz33_0 := blk_frozen BK101.out 0
                            have hfz33_1 := blk_frozen BK101.out 1
                            go_wp2_with (simp only [bits_run])
                            refine bodyPost_ret (results_ct rfl _ _ gb101 31 #[.int .u64 0, .int .u64 0] (0, 0) _ rfl (by (with_reducible repeat (first | refine blk_drewN ?_ _ | refine blk_drew ?_ | refine blk_alloc ?_ _)); refine blk_put (cs := #[.int .u64 0, .int .u64 0]) ?_ 1 _ rfl; (with_reducible repeat (first | refine blk_drewN ?_ _ | refine blk_drew ?_ | refine blk_alloc ?_ _)); refine blk_put (cs := #[.int .u64 0, .int .u64 0]) ?_ 0 _ rfl; (with_reducible repeat (first | refine blk_drewN ?_ _ | refine blk_drew ?_ | refine blk_alloc ?_ _)); exact BK101.out) Tryd.underlying31 rfl (by kernel_rfl)) rfl ?_
                            exact ⟨by first | rfl | (simp [errW_none, errW_some] <;> rfl) | (simp only [← hji20, ← hji22, ← hji24, ← hji25, ← hji27]; first | rfl | (simp [errW_none, errW_some] <;> rfl)) | (simp [*, errW_none, errW_some] <;> rfl), by repeat (first | (with_reducible first | exact HB.out | apply below_alloc | apply pw_below_drewN | apply below_drew1 | refine below_set ?_ GE101.out) | exact HB.out)⟩
                          · rw [if_neg c32] at H
                            have c32b0 : ((IntKind.u64.wrap (ji22 + 1)) == 0) = false := beq_eq_false_iff_ne.mpr c32
                            have c32b1 : ((IntKind.u64.wrap (ji22 + 1)) != 0) = true := bne_iff_ne.mpr c32
                            replace H := Option.bind_eq_some_iff.mp H
                            obtain ⟨⟨t103, t104⟩, A340, H⟩ := H
                            replace H : (some (t103, t104, 0)) = some (r1, r2, r3) := H
                            have A34 := Aside0.mk A340
                            clear A340
                            simp only [Option.some.injEq, Prod.mk.injEq] at H
                            obtain ⟨rfl, rfl, rfl⟩ := H
                            go_wp2_with (first | simp only [bits_run] | ((with_reducible refine gate_callee (f := 37) rfl ?_); refine goesL_ (some 79) rfl rfl Tryd.func37 (by kernel_rfl) rfl #[.int .u64 (IntKind.u64.wrap (ji22 + 1))] rfl (by (try simp only [List.map_toArray, List.map_cons, List.map_nil]); first | done | (simp only [hji22]; rfl) | rfl | (simp only [List.length_drop, List.length_take]; rfl)) ?_; (with_reducible refine (tikref1_least.calls kj27 (IntKind.u64.wrap (ji22 + 1)) t103 t104 _ A34.out).mono ?_); rintro e w35 ⟨rfl, hb⟩; refine ⟨_, rfl, ?_⟩; have n0_ := Aside0.mk (blk_below (g := gb101) (o := .cells #[.int .u64 0, .int .u64 0] 31 (0, 0)) (by (with_reducible repeat (first | refine blk_drewN ?_ _ | refine blk_drew ?_ | refine blk_alloc ?_ _)); exact BK101.out) hb); have n1_ := Aside0.mk (below_step (by repeat (first | (with_reducible first | exact HB.out | apply below_alloc | apply pw_below_drewN | apply below_drew1 | refine below_set ?_ GE101.out) | exact HB.out)) hb); clear BK101; clear HB; have BK101 := n0_; have HB := n1_; clear n0_ n1_; (try clear hb); (try clear hb2); (try clear hk); (try clear hi); have hcz36_0 : w35.cell? ⟨gb101, 0, none⟩ = some (.int .u64 0) := (blk_cell BK101.out 0).trans rfl; have hcz36_1 : w35.cell? ⟨gb101, 1, none⟩ = some (.int .u64 0) := (blk_cell BK101.out 1).trans rfl; have hfz36_0 := blk_frozen BK101.out 0; have hfz36_1 := blk_frozen BK101.out 1))
                            refine bodyPost_ret (results_ct rfl _ _ gb101 31 #[.int .u64 t103, .int .u64 t104] (0, 0) _ rfl (by (with_reducible repeat (first | refine blk_drewN ?_ _ | refine blk_drew ?_ | refine blk_alloc ?_ _)); refine blk_put (cs := #[.int .u64 t103, .int .u64 0]) ?_ 1 _ rfl; (with_reducible repeat (first | refine blk_drewN ?_ _ | refine blk_drew ?_ | refine blk_alloc ?_ _)); refine blk_put (cs := #[.int .u64 0, .int .u64 0]) ?_ 0 _ rfl; (with_reducible repeat (first | refine blk_drewN ?_ _ | refine blk_drew ?_ | refine blk_alloc ?_ _)); exact BK101.out) Tryd.underlying31 rfl (by kernel_rfl)) rfl ?_
                            exact ⟨by first | rfl | (simp [errW_none, errW_some] <;> rfl) | (simp only [← hji20, ← hji22, ← hji24, ← hji25, ← hji27]; first | rfl | (simp [errW_none, errW_some] <;> rfl)) | (simp [*, errW_none, errW_some] <;> rfl), by repeat (first | (with_reducible first | exact HB.out | apply below_alloc | apply pw_below_drewN | apply below_drew1 | refine below_set ?_ GE101.out) | exact HB.out)⟩
                        · replace c31 := Bool.eq_false_iff.mpr c31
                          subst c31
                          have H1 : (if ji22 = 0 then (some (0, 0, 1)) else ((tikref1_least.f kj27 ji22).bind fun bt105 => (some (bt105.1, bt105.2, 0)))) = some (r1, r2, r3) := by rw [if_neg (show ¬ (false = true) by decide)] at H; exact H
                          clear H
                          have H := H1
                          clear H1
                          by_cases c37 : ji22 = 0
                          · rw [if_pos c37] at H
                            have c37b0 : (ji22 == 0) = true := beq_iff_eq.mpr c37
                            have c37b1 : (ji22 != 0) = false := bne_eq_false_iff_eq.mpr c37
                            clear c37
                            simp only [Option.some.injEq, Prod.mk.injEq] at H
                            obtain ⟨rfl, rfl, rfl⟩ := H
                            have hcz38_0 : wc.cell? ⟨gb101, 0, none⟩ = some (.int .u64 0) := (blk_cell BK101.out 0).trans rfl
                            have hcz38_1 : wc.cell? ⟨gb101, 1, none⟩ = some (.int .u64 0) := (blk_cell BK101.out 1).trans rfl
                            have hfz38_0 := blk_frozen BK101.out 0
                            have hfz38_1 := blk_frozen BK101.out 1
                            go_wp2_with (simp only [bits_run])
                            refine bodyPost_ret (results_ct rfl _ _ gb101 31 #[.int .u64 0, .int .u64 0] (0, 0) _ rfl (by (with_reducible repeat (first | refine blk_drewN ?_ _ | refine blk_drew ?_ | refine blk_alloc ?_ _)); refine blk_put (cs := #[.int .u64 0, .int .u64 0]) ?_ 1 _ rfl; (with_reducible repeat (first | refine blk_drewN ?_ _ | refine blk_drew ?_ | refine blk_alloc ?_ _)); refine blk_put (cs := #[.int .u64 0, .int .u64 0]) ?_ 0 _ rfl; (with_reducible repeat (first | refine blk_drewN ?_ _ | refine blk_drew ?_ | refine blk_alloc ?_ _)); exact BK101.out) Tryd.underlying31 rfl (by kernel_rfl)) rfl ?_
                            exact ⟨by first | rfl | (simp [errW_none, errW_some] <;> rfl) | (simp only [← hji20, ← hji22, ← hji24, ← hji25, ← hji27]; first | rfl | (simp [errW_none, errW_some] <;> rfl)) | (simp [*, errW_none, errW_some] <;> rfl), by repeat (first | (with_reducible first | exact HB.out | apply below_alloc | apply pw_below_drewN | apply below_drew1 | refine below_set ?_ GE101.out) | exact HB.out)⟩
                          · rw [if_neg c37] at H
                            have c37b0 : (ji22 == 0) = false := beq_eq_false_iff_ne.mpr c37
                            have c37b1 : (ji22 != 0) = true := bne_iff_ne.mpr c37
                            replace H := Option.bind_eq_some_iff.mp H
                            obtain ⟨⟨t105, t106⟩, A390, H⟩ := H
                            replace H : (some (t105, t106, 0)) = some (r1, r2, r3) := H
                            have A39 := Aside0.mk A390
                            clear A390
                            simp only [Option.some.injEq, Prod.mk.injEq] at H
                            obtain ⟨rfl, rfl, rfl⟩ := H
                            go_wp2_with (first | simp only [bits_run] | ((with_reducible refine gate_callee (f := 37) rfl ?_); refine goesL_ (some 79) rfl rfl Tryd.func37 (by kernel_rfl) rfl #[.int .u64 ji22] rfl (by (try simp only [List.map_toArray, List.map_cons, List.map_nil]); first | done | (simp only [hji22]; rfl) | rfl | (simp only [List.length_drop, List.length_take]; rfl)) ?_; (with_reducible refine (tikref1_least.calls kj27 ji22 t105 t106 _ A39.out).mono ?_); rintro e w40 ⟨rfl, hb⟩; refine ⟨_, rfl, ?_⟩; have n0_ := Aside0.mk (blk_below (g := gb101) (o := .cells #[.int .u64 0, .int .u64 0] 31 (0, 0)) (by (with_reducible repeat (first | refine blk_drewN ?_ _ | refine blk_drew ?_ | refine blk_alloc ?_ _)); exact BK101.out) hb); have n1_ := Aside0.mk (below_step (by repeat (first | (with_reducible first | exact HB.out | apply below_alloc | apply pw_below_drewN | apply below_drew1 | refine below_set ?_ GE101.out) | exact HB.out)) hb); clear BK101; clear HB; have BK101 := n0_; have HB := n1_; clear n0_ n1_; (try clear hb); (try clear hb2); (try clear hk); (try clear hi); have hcz41_0 : w40.cell? ⟨gb101, 0, none⟩ = some (.int .u64 0) := (blk_cell BK101.out 0).trans rfl; have hcz41_1 : w40.cell? ⟨gb101, 1, none⟩ = some (.int .u64 0) := (blk_cell BK101.out 1).trans rfl; have hfz41_0 := blk_frozen BK101.out 0; have hfz41_1 := blk_frozen BK101.out 1))
                            refine bodyPost_ret (results_ct rfl _ _ gb101 31 #[.int .u64 t105, .int .u64 t106] (0, 0) _ rfl (by (with_reducible repeat (first | refine blk_drewN ?_ _ | refine blk_drew ?_ | refine blk_alloc ?_ _)); refine blk_put (cs := #[.int .u64 t105, .int .u64 0]) ?_ 1 _ rfl; (with_reducible repeat (first | refine blk_drewN ?_ _ | refine blk_drew ?_ | refine blk_alloc ?_ _)); refine blk_put (cs := #[.int .u64 0, .int .u64 0]) ?_ 0 _ rfl; (with_reducible repeat (first | refine blk_drewN ?_ _ | refine blk_drew ?_ | refine blk_alloc ?_ _)); exact BK101.out) Tryd.underlying31 rfl (by kernel_rfl)) rfl ?_
                            exact ⟨by first | rfl | (simp [errW_none, errW_some] <;> rfl) | (simp only [← hji20, ← hji22, ← hji24, ← hji25, ← hji27]; first | rfl | (simp [errW_none, errW_some] <;> rfl)) | (simp [*, errW_none, errW_some] <;> rfl), by repeat (first | (with_reducible first | exact HB.out | apply below_alloc | apply pw_below_drewN | apply below_drew1 | refine below_set ?_ GE101.out) | exact HB.out)⟩
                  · rw [if_neg c26] at H
                    exact absurd H (by simp)
                · rw [if_neg c21] at H
                  exact absurd H (by simp)

/-! ### rate_rank: function 40 -/
def rate_rank.f (a0 : Nat) : Option (Int) := (rate_Bits.f a0).bind fun t107 => (if (Go.bits .and .u64 t107 9223372036854775808) > 0 then (some (Go.bits .xor .u64 18446744073709551615 t107)) else (some (Go.bits .or .u64 t107 9223372036854775808)))
set_option maxHeartbeats 8000000 in
set_option maxRecDepth 100000 in
theorem rate_rank.calls (a0 : Nat) (r : Int) (w : World) (h : rate_rank.f a0 = some r) :
    Calls Tryd.prog 40 #[.float .f64 a0] w fun e w' => e = .returned (.int .u64 r) ∧ Below w.heap.size w w' := by
  have HB := Aside0.mk (Below.refl w.heap.size w)
  have H : ((rate_Bits.f a0).bind fun t107 => (if (Go.bits .and .u64 t107 9223372036854775808) > 0 then (some (Go.bits .xor .u64 18446744073709551615 t107)) else (some (Go.bits .or .u64 t107 9223372036854775808)))) = some r := h
  clear h
  replace H := Option.bind_eq_some_iff.mp H
  obtain ⟨t107, A20, H⟩ := H
  replace H : (if (Go.bits .and .u64 t107 9223372036854775808) > 0 then (some (Go.bits .xor .u64 18446744073709551615 t107)) else (some (Go.bits .or .u64 t107 9223372036854775808))) = some r := H
  have A2 := Aside0.mk A20
  clear A20
  by_cases c3 : (Go.bits .and .u64 t107 9223372036854775808) > 0
  · rw [if_pos c3] at H
    have c3b0 : decide (0 < (Go.bits .and .u64 t107 9223372036854775808)) = true := decide_eq_true c3
    clear c3
    obtain rfl := Option.some.inj H
    go_enter Tryd.func40, Tryd.ntmps40
    go_wp2_with (first | simp only [bits_run] | ((with_reducible refine gate_callee (f := 17) rfl ?_); refine goesL_ (some 5) rfl rfl Tryd.func17 (by kernel_rfl) rfl #[.float .f64 a0] rfl (by (try simp only [List.map_toArray, List.map_cons, List.map_nil]); first | done | rfl | (simp only [List.length_drop, List.length_take]; rfl)) ?_; (with_reducible refine (rate_Bits.calls a0 t107 _ A2.out).mono ?_); rintro e w4 ⟨rfl, hb⟩; refine ⟨_, rfl, ?_⟩; have n0_ := Aside0.mk (below_step (by repeat (first | (with_reducible first | exact HB.out | apply below_alloc | apply pw_below_drewN | apply below_drew1) | exact HB.out)) hb); clear HB; have HB := n0_; clear n0_; (try clear hb); (try clear hb2); (try clear hk); (try clear hi)))
    go_ret
    exact ⟨by first | rfl | (simp [errW_none, errW_some] <;> rfl) | (simp [*, errW_none, errW_some] <;> rfl), by repeat (first | (with_reducible first | exact HB.out | apply below_alloc | apply pw_below_drewN | apply below_drew1) | exact HB.out)⟩
  · rw [if_neg c3] at H
    have c3b0 : decide (0 < (Go.bits .and .u64 t107 9223372036854775808)) = false := decide_eq_false c3
    clear c3
    obtain rfl := Option.some.inj H
    go_enter Tryd.func40, Tryd.ntmps40
    go_wp2_with (first | simp only [bits_run] | ((with_reducible refine gate_callee (f := 17) rfl ?_); refine goesL_ (some 5) rfl rfl Tryd.func17 (by kernel_rfl) rfl #[.float .f64 a0] rfl (by (try simp only [List.map_toArray, List.map_cons, List.map_nil]); first | done | rfl | (simp only [List.length_drop, List.length_take]; rfl)) ?_; (with_reducible refine (rate_Bits.calls a0 t107 _ A2.out).mono ?_); rintro e w5 ⟨rfl, hb⟩; refine ⟨_, rfl, ?_⟩; have n0_ := Aside0.mk (below_step (by repeat (first | (with_reducible first | exact HB.out | apply below_alloc | apply pw_below_drewN | apply below_drew1) | exact HB.out)) hb); clear HB; have HB := n0_; clear n0_; (try clear hb); (try clear hb2); (try clear hk); (try clear hi)))
    go_ret
    exact ⟨by first | rfl | (simp [errW_none, errW_some] <;> rfl) | (simp [*, errW_none, errW_some] <;> rfl), by repeat (first | (with_reducible first | exact HB.out | apply below_alloc | apply pw_below_drewN | apply below_drew1) | exact HB.out)⟩

/-! ### rate_Order: function 19 -/
def rate_Order.f (a0 : Nat) (a1 : Nat) : Option (Int) := (rate_rank.f a0).bind fun t108 => ((rate_rank.f a1).bind fun t109 => ((cmp_Compare_uint64.f t108 t109).bind fun t110 => (some t110)))
set_option maxHeartbeats 8000000 in
set_option maxRecDepth 100000 in
theorem rate_Order.calls (a0 : Nat) (a1 : Nat) (r : Int) (w : World) (h : rate_Order.f a0 a1 = some r) :
    Calls Tryd.prog 19 #[.float .f64 a0, .float .f64 a1] w fun e w' => e = .returned (.int .i64 r) ∧ Below w.heap.size w w' := by
  have HB := Aside0.mk (Below.refl w.heap.size w)
  have H : ((rate_rank.f a0).bind fun t108 => ((rate_rank.f a1).bind fun t109 => ((cmp_Compare_uint64.f t108 t109).bind fun t110 => (some t110)))) = some r := h
  clear h
  replace H := Option.bind_eq_some_iff.mp H
  obtain ⟨t108, A30, H⟩ := H
  replace H : ((rate_rank.f a1).bind fun t109 => ((cmp_Compare_uint64.f t108 t109).bind fun t110 => (some t110))) = some r := H
  have A3 := Aside0.mk A30
  clear A30
  replace H := Option.bind_eq_some_iff.mp H
  obtain ⟨t109, A40, H⟩ := H
  replace H : ((cmp_Compare_uint64.f t108 t109).bind fun t110 => (some t110)) = some r := H
  have A4 := Aside0.mk A40
  clear A40
  replace H := Option.bind_eq_some_iff.mp H
  obtain ⟨t110, A50, H⟩ := H
  replace H : (some t110) = some r := H
  have A5 := Aside0.mk A50
  clear A50
  obtain rfl := Option.some.inj H
  go_enter Tryd.func19, Tryd.ntmps19
  go_wp2_with (first | simp only [bits_run] | ((with_reducible refine gate_callee (f := 40) rfl ?_); refine goesL_ (some 6) rfl rfl Tryd.func40 (by kernel_rfl) rfl #[.float .f64 a0] rfl (by (try simp only [List.map_toArray, List.map_cons, List.map_nil]); first | done | rfl | (simp only [List.length_drop, List.length_take]; rfl)) ?_; (with_reducible refine (rate_rank.calls a0 t108 _ A3.out).mono ?_); rintro e w6 ⟨rfl, hb⟩; refine ⟨_, rfl, ?_⟩; have n0_ := Aside0.mk (below_step (by repeat (first | (with_reducible first | exact HB.out | apply below_alloc | apply pw_below_drewN | apply below_drew1) | exact HB.out)) hb); clear HB; have HB := n0_; clear n0_; (try clear hb); (try clear hb2); (try clear hk); (try clear hi)) | ((with_reducible refine gate_callee (f := 40) rfl ?_); refine goesL_ (some 8) rfl rfl Tryd.func40 (by kernel_rfl) rfl #[.float .f64 a1] rfl (by (try simp only [List.map_toArray, List.map_cons, List.map_nil]); first | done | rfl | (simp only [List.length_drop, List.length_take]; rfl)) ?_; (with_reducible refine (rate_rank.calls a1 t109 _ A4.out).mono ?_); rintro e w7 ⟨rfl, hb⟩; refine ⟨_, rfl, ?_⟩; have n0_ := Aside0.mk (below_step (by repeat (first | (with_reducible first | exact HB.out | apply below_alloc | apply pw_below_drewN | apply below_drew1) | exact HB.out)) hb); clear HB; have HB := n0_; clear n0_; (try clear hb); (try clear hb2); (try clear hk); (try clear hi)) | ((with_reducible refine gate_callee (f := 39) rfl ?_); refine goesL_ (some 9) rfl rfl Tryd.func39 (by kernel_rfl) rfl #[.int .u64 t108, .int .u64 t109] rfl (by (try simp only [List.map_toArray, List.map_cons, List.map_nil]); first | done | rfl | (simp only [List.length_drop, List.length_take]; rfl)) ?_; (with_reducible refine (cmp_Compare_uint64.calls t108 t109 t110 _ A5.out).mono ?_); rintro e w' ⟨rfl, ⟨nd, rfl⟩⟩; refine ⟨_, rfl, ?_⟩))
  go_ret
  exact ⟨by first | rfl | (simp [errW_none, errW_some] <;> rfl) | (simp [*, errW_none, errW_some] <;> rfl), by repeat (first | (with_reducible first | exact HB.out | apply below_alloc | apply pw_below_drewN | apply below_drew1) | exact HB.out)⟩

/-! ### tikref1_rank: function 41 -/
def tikref1_rank.f (a0 : Nat) : Option (Int) := (tikref1_Bits.f a0).bind fun t111 => ((tikref1_nan.f).bind fun t112 => (if t111 = t112 then (some 18446744073709551615) else (if (t111 / 9223372036854775808) = 1 then (some (Go.bits .xor .u64 18446744073709551615 t111)) else (some (Go.bits .or .u64 t111 9223372036854775808)))))
set_option maxHeartbeats 8000000 in
set_option maxRecDepth 100000 in
theorem tikref1_rank.calls (a0 : Nat) (r : Int) (w : World) (h : tikref1_rank.f a0 = some r) :
    Calls Tryd.prog 41 #[.float .f64 a0] w fun e w' => e = .returned (.int .u64 r) ∧ Below w.heap.size w w' := by
  have HB := Aside0.mk (Below.refl w.heap.size w)
  have H : ((tikref1_Bits.f a0).bind fun t111 => ((tikref1_nan.f).bind fun t112 => (if t111 = t112 then (some 18446744073709551615) else (if (t111 / 9223372036854775808) = 1 then (some (Go.bits .xor .u64 18446744073709551615 t111)) else (some (Go.bits .or .u64 t111 9223372036854775808)))))) = some r := h
  clear h
  replace H := Option.bind_eq_some_iff.mp H
  obtain ⟨t111, A20, H⟩ := H
  replace H : ((tikref1_nan.f).bind fun t112 => (if t111 = t112 then (some 18446744073709551615) else (if (t111 / 9223372036854775808) = 1 then (some (Go.bits .xor .u64 18446744073709551615 t111)) else (some (Go.bits .or .u64 t111 9223372036854775808))))) = some r := H
  have A2 := Aside0.mk A20
  clear A20
  replace H := Option.bind_eq_some_iff.mp H
  obtain ⟨t112, A30, H⟩ := H
  replace H : (if t111 = t112 then (some 18446744073709551615) else (if (t111 / 9223372036854775808) = 1 then (some (Go.bits .xor .u64 18446744073709551615 t111)) else (some (Go.bits .or .u64 t111 9223372036854775808)))) = some r := H
  have A3 := Aside0.mk A30
  clear A30
  by_cases c4 : t111 = t112
  · rw [if_pos c4] at H
    have c4b0 : (t111 == t112) = true := beq_iff_eq.mpr c4
    have c4b1 : (t111 != t112) = false := bne_eq_false_iff_eq.mpr c4
    clear c4
    obtain rfl := Option.some.inj H
    go_enter Tryd.func41, Tryd.ntmps41
    go_wp2_with (first | simp only [bits_run] | ((with_reducible refine gate_callee (f := 18) rfl ?_); refine goesL_ (some 5) rfl rfl Tryd.func18 (by kernel_rfl) rfl #[.float .f64 a0] rfl (by (try simp only [List.map_toArray, List.map_cons, List.map_nil]); first | done | rfl | (simp only [List.length_drop, List.length_take]; rfl)) ?_; (with_reducible refine (tikref1_Bits.calls a0 t111 _ A2.out).mono ?_); rintro e w5 ⟨rfl, hb⟩; refine ⟨_, rfl, ?_⟩; have n0_ := Aside0.mk (below_step (by repeat (first | (with_reducible first | exact HB.out | apply below_alloc | apply pw_below_drewN | apply below_drew1) | exact HB.out)) hb); clear HB; have HB := n0_; clear n0_; (try clear hb); (try clear hb2); (try clear hk); (try clear hi)) | ((with_reducible refine gate_callee (f := 38) rfl ?_); refine goesL_ (some 7) rfl rfl Tryd.func38 (by kernel_rfl) rfl #[] rfl (by (try simp only [List.map_toArray, List.map_cons, List.map_nil]); first | done | rfl | (simp only [List.length_drop, List.length_take]; rfl)) ?_; (with_reducible refine (tikref1_nan.calls  t112 _ A3.out).mono ?_); rintro e w' ⟨rfl, ⟨nd, rfl⟩⟩; refine ⟨_, rfl, ?_⟩))
    go_ret
    exact ⟨by first | rfl | (simp [errW_none, errW_some] <;> rfl) | (simp [*, errW_none, errW_some] <;> rfl), by repeat (first | (with_reducible first | exact HB.out | apply below_alloc | apply pw_below_drewN | apply below_drew1) | exact HB.out)⟩
  · rw [if_neg c4] at H
    have c4b0 : (t111 == t112) = false := beq_eq_false_iff_ne.mpr c4
    have c4b1 : (t111 != t112) = true := bne_iff_ne.mpr c4
    by_cases c6 : (t111 / 9223372036854775808) = 1
    · rw [if_pos c6] at H
      have c6b0 : ((t111 / 9223372036854775808) == 1) = true := beq_iff_eq.mpr c6
      have c6b1 : ((t111 / 9223372036854775808) != 1) = false := bne_eq_false_iff_eq.mpr c6
      clear c6
      obtain rfl := Option.some.inj H
      go_enter Tryd.func41, Tryd.ntmps41
      go_wp2_with (first | simp only [bits_run] | ((with_reducible refine gate_callee (f := 18) rfl ?_); refine goesL_ (some 5) rfl rfl Tryd.func18 (by kernel_rfl) rfl #[.float .f64 a0] rfl (by (try simp only [List.map_toArray, List.map_cons, List.map_nil]); first | done | rfl | (simp only [List.length_drop, List.length_take]; rfl)) ?_; (with_reducible refine (tikref1_Bits.calls a0 t111 _ A2.out).mono ?_); rintro e w7 ⟨rfl, hb⟩; refine ⟨_, rfl, ?_⟩; have n0_ := Aside0.mk (below_step (by repeat (first | (with_reducible first | exact HB.out | apply below_alloc | apply pw_below_drewN | apply below_drew1) | exact HB.out)) hb); clear HB; have HB := n0_; clear n0_; (try clear hb); (try clear hb2); (try clear hk); (try clear hi)) | ((with_reducible refine gate_callee (f := 38) rfl ?_); refine goesL_ (some 7) rfl rfl Tryd.func38 (by kernel_rfl) rfl #[] rfl (by (try simp only [List.map_toArray, List.map_cons, List.map_nil]); first | done | rfl | (simp only [List.length_drop, List.length_take]; rfl)) ?_; (with_reducible refine (tikref1_nan.calls  t112 _ A3.out).mono ?_); rintro e w' ⟨rfl, ⟨nd, rfl⟩⟩; refine ⟨_, rfl, ?_⟩))
      go_ret
      exact ⟨by first | rfl | (simp [errW_none, errW_some] <;> rfl) | (simp [*, errW_none, errW_some] <;> rfl), by repeat (first | (with_reducible first | exact HB.out | apply below_alloc | apply pw_below_drewN | apply below_drew1) | exact HB.out)⟩
    · rw [if_neg c6] at H
      have c6b0 : ((t111 / 9223372036854775808) == 1) = false := beq_eq_false_iff_ne.mpr c6
      have c6b1 : ((t111 / 9223372036854775808) != 1) = true := bne_iff_ne.mpr c6
      obtain rfl := Option.some.inj H
      go_enter Tryd.func41, Tryd.ntmps41
      go_wp2_with (first | simp only [bits_run] | ((with_reducible refine gate_callee (f := 18) rfl ?_); refine goesL_ (some 5) rfl rfl Tryd.func18 (by kernel_rfl) rfl #[.float .f64 a0] rfl (by (try simp only [List.map_toArray, List.map_cons, List.map_nil]); first | done | rfl | (simp only [List.length_drop, List.length_take]; rfl)) ?_; (with_reducible refine (tikref1_Bits.calls a0 t111 _ A2.out).mono ?_); rintro e w8 ⟨rfl, hb⟩; refine ⟨_, rfl, ?_⟩; have n0_ := Aside0.mk (below_step (by repeat (first | (with_reducible first | exact HB.out | apply below_alloc | apply pw_below_drewN | apply below_drew1) | exact HB.out)) hb); clear HB; have HB := n0_; clear n0_; (try clear hb); (try clear hb2); (try clear hk); (try clear hi)) | ((with_reducible refine gate_callee (f := 38) rfl ?_); refine goesL_ (some 7) rfl rfl Tryd.func38 (by kernel_rfl) rfl #[] rfl (by (try simp only [List.map_toArray, List.map_cons, List.map_nil]); first | done | rfl | (simp only [List.length_drop, List.length_take]; rfl)) ?_; (with_reducible refine (tikref1_nan.calls  t112 _ A3.out).mono ?_); rintro e w' ⟨rfl, ⟨nd, rfl⟩⟩; refine ⟨_, rfl, ?_⟩))
      go_ret
      exact ⟨by first | rfl | (simp [errW_none, errW_some] <;> rfl) | (simp [*, errW_none, errW_some] <;> rfl), by repeat (first | (with_reducible first | exact HB.out | apply below_alloc | apply pw_below_drewN | apply below_drew1) | exact HB.out)⟩

/-! ### tikref1_Order: function 20 -/
def tikref1_Order.f (a0 : Nat) (a1 : Nat) : Option (Int) := (tikref1_rank.f a0).bind fun t113 => ((tikref1_rank.f a1).bind fun t114 => (if t113 < t114 then (some (-1)) else (if t113 > t114 then (some 1) else (some 0))))
set_option maxHeartbeats 8000000 in
set_option maxRecDepth 100000 in
theorem tikref1_Order.calls (a0 : Nat) (a1 : Nat) (r : Int) (w : World) (h : tikref1_Order.f a0 a1 = some r) :
    Calls Tryd.prog 20 #[.float .f64 a0, .float .f64 a1] w fun e w' => e = .returned (.int .i64 r) ∧ Below w.heap.size w w' := by
  have HB := Aside0.mk (Below.refl w.heap.size w)
  have H : ((tikref1_rank.f a0).bind fun t113 => ((tikref1_rank.f a1).bind fun t114 => (if t113 < t114 then (some (-1)) else (if t113 > t114 then (some 1) else (some 0))))) = some r := h
  clear h
  replace H := Option.bind_eq_some_iff.mp H
  obtain ⟨t113, A30, H⟩ := H
  replace H : ((tikref1_rank.f a1).bind fun t114 => (if t113 < t114 then (some (-1)) else (if t113 > t114 then (some 1) else (some 0)))) = some r := H
  have A3 := Aside0.mk A30
  clear A30
  replace H := Option.bind_eq_some_iff.mp H
  obtain ⟨t114, A40, H⟩ := H
  replace H : (if t113 < t114 then (some (-1)) else (if t113 > t114 then (some 1) else (some 0))) = some r := H
  have A4 := Aside0.mk A40
  clear A40
  by_cases c5 : t113 < t114
  · rw [if_pos c5] at H
    have c5b0 : decide (t113 < t114) = true := decide_eq_true c5
    clear c5
    obtain rfl := Option.some.inj H
    go_enter Tryd.func20, Tryd.ntmps20
    go_wp2_with (first | simp only [bits_run] | ((with_reducible refine gate_callee (f := 41) rfl ?_); refine goesL_ (some 8) rfl rfl Tryd.func41 (by kernel_rfl) rfl #[.float .f64 a0] rfl (by (try simp only [List.map_toArray, List.map_cons, List.map_nil]); first | done | rfl | (simp only [List.length_drop, List.length_take]; rfl)) ?_; (with_reducible refine (tikref1_rank.calls a0 t113 _ A3.out).mono ?_); rintro e w6 ⟨rfl, hb⟩; refine ⟨_, rfl, ?_⟩; have n0_ := Aside0.mk (below_step (by repeat (first | (with_reducible first | exact HB.out | apply below_alloc | apply pw_below_drewN | apply below_drew1) | exact HB.out)) hb); clear HB; have HB := n0_; clear n0_; (try clear hb); (try clear hb2); (try clear hk); (try clear hi)) | ((with_reducible refine gate_callee (f := 41) rfl ?_); refine goesL_ (some 10) rfl rfl Tryd.func41 (by kernel_rfl) rfl #[.float .f64 a1] rfl (by (try simp only [List.map_toArray, List.map_cons, List.map_nil]); first | done | rfl | (simp only [List.length_drop, List.length_take]; rfl)) ?_; (with_reducible refine (tikref1_rank.calls a1 t114 _ A4.out).mono ?_); rintro e w7 ⟨rfl, hb⟩; refine ⟨_, rfl, ?_⟩; have n0_ := Aside0.mk (below_step (by repeat (first | (with_reducible first | exact HB.out | apply below_alloc | apply pw_below_drewN | apply below_drew1) | exact HB.out)) hb); clear HB; have HB := n0_; clear n0_; (try clear hb); (try clear hb2); (try clear hk); (try clear hi)))
    go_ret
    exact ⟨by first | rfl | (simp [errW_none, errW_some] <;> rfl) | (simp [*, errW_none, errW_some] <;> rfl), by repeat (first | (with_reducible first | exact HB.out | apply below_alloc | apply pw_below_drewN | apply below_drew1) | exact HB.out)⟩
  · rw [if_neg c5] at H
    have c5b0 : decide (t113 < t114) = false := decide_eq_false c5
    clear c5
    by_cases c8 : t113 > t114
    · rw [if_pos c8] at H
      have c8b0 : decide (t114 < t113) = true := decide_eq_true c8
      clear c8
      obtain rfl := Option.some.inj H
      go_enter Tryd.func20, Tryd.ntmps20
      go_wp2_with (first | simp only [bits_run] | ((with_reducible refine gate_callee (f := 41) rfl ?_); refine goesL_ (some 8) rfl rfl Tryd.func41 (by kernel_rfl) rfl #[.float .f64 a0] rfl (by (try simp only [List.map_toArray, List.map_cons, List.map_nil]); first | done | rfl | (simp only [List.length_drop, List.length_take]; rfl)) ?_; (with_reducible refine (tikref1_rank.calls a0 t113 _ A3.out).mono ?_); rintro e w9 ⟨rfl, hb⟩; refine ⟨_, rfl, ?_⟩; have n0_ := Aside0.mk (below_step (by repeat (first | (with_reducible first | exact HB.out | apply below_alloc | apply pw_below_drewN | apply below_drew1) | exact HB.out)) hb); clear HB; have HB := n0_; clear n0_; (try clear hb); (try clear hb2); (try clear hk); (try clear hi)) | ((with_reducible refine gate_callee (f := 41) rfl ?_); refine goesL_ (some 10) rfl rfl Tryd.func41 (by kernel_rfl) rfl #[.float .f64 a1] rfl (by (try simp only [List.map_toArray, List.map_cons, List.map_nil]); first | done | rfl | (simp only [List.length_drop, List.length_take]; rfl)) ?_; (with_reducible refine (tikref1_rank.calls a1 t114 _ A4.out).mono ?_); rintro e w10 ⟨rfl, hb⟩; refine ⟨_, rfl, ?_⟩; have n0_ := Aside0.mk (below_step (by repeat (first | (with_reducible first | exact HB.out | apply below_alloc | apply pw_below_drewN | apply below_drew1) | exact HB.out)) hb); clear HB; have HB := n0_; clear n0_; (try clear hb); (try clear hb2); (try clear hk); (try clear hi)))
      go_ret
      exact ⟨by first | rfl | (simp [errW_none, errW_some] <;> rfl) | (simp [*, errW_none, errW_some] <;> rfl), by repeat (first | (with_reducible first | exact HB.out | apply below_alloc | apply pw_below_drewN | apply below_drew1) | exact HB.out)⟩
    · rw [if_neg c8] at H
      have c8b0 : decide (t114 < t113) = false := decide_eq_false c8
      clear c8
      obtain rfl := Option.some.inj H
      go_enter Tryd.func20, Tryd.ntmps20
      go_wp2_with (first | simp only [bits_run] | ((with_reducible refine gate_callee (f := 41) rfl ?_); refine goesL_ (some 8) rfl rfl Tryd.func41 (by kernel_rfl) rfl #[.float .f64 a0] rfl (by (try simp only [List.map_toArray, List.map_cons, List.map_nil]); first | done | rfl | (simp only [List.length_drop, List.length_take]; rfl)) ?_; (with_reducible refine (tikref1_rank.calls a0 t113 _ A3.out).mono ?_); rintro e w11 ⟨rfl, hb⟩; refine ⟨_, rfl, ?_⟩; have n0_ := Aside0.mk (below_step (by repeat (first | (with_reducible first | exact HB.out | apply below_alloc | apply pw_below_drewN | apply below_drew1) | exact HB.out)) hb); clear HB; have HB := n0_; clear n0_; (try clear hb); (try clear hb2); (try clear hk); (try clear hi)) | ((with_reducible refine gate_callee (f := 41) rfl ?_); refine goesL_ (some 10) rfl rfl Tryd.func41 (by kernel_rfl) rfl #[.float .f64 a1] rfl (by (try simp only [List.map_toArray, List.map_cons, List.map_nil]); first | done | rfl | (simp only [List.length_drop, List.length_take]; rfl)) ?_; (with_reducible refine (tikref1_rank.calls a1 t114 _ A4.out).mono ?_); rintro e w12 ⟨rfl, hb⟩; refine ⟨_, rfl, ?_⟩; have n0_ := Aside0.mk (below_step (by repeat (first | (with_reducible first | exact HB.out | apply below_alloc | apply pw_below_drewN | apply below_drew1) | exact HB.out)) hb); clear HB; have HB := n0_; clear n0_; (try clear hb); (try clear hb2); (try clear hk); (try clear hi)))
      go_ret
      exact ⟨by first | rfl | (simp [errW_none, errW_some] <;> rfl) | (simp [*, errW_none, errW_some] <;> rfl), by repeat (first | (with_reducible first | exact HB.out | apply below_alloc | apply pw_below_drewN | apply below_drew1) | exact HB.out)⟩

end Go.Proofs.YtpebcphkockkkaaDoor.PE
