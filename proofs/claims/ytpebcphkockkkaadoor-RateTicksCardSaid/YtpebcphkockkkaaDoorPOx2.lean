-- written for this claim by mp.py (this repo), with the kit's print; checked by the kernel alone
import Derived.Test.YtpebcphkockkkaaDoorPOx0
namespace Go.Proofs.YtpebcphkockkkaaDoor.PO
open Go.RowKit Go.Proofs.YtpebcphkockkkaaDoorW.PrintWords Go.Proofs.YtpebcphkockkkaaDoorW.PrintLast Go.Proofs.YtpebcphkockkkaaDoorW.PrintMore
attribute [local go_sem] max2_int min2_int max_two min_two max_three min_three max_four min_four   -- for this text's walks alone
open Go.Proofs.YtpebcphkockkkaaDoor.Hand
open Go.Proofs.YtpebcphkockkkaaDoor.PA
open Go.Proofs.YtpebcphkockkkaaDoor.PB
open Go.Proofs.YtpebcphkockkkaaDoor.PD
open Go.Proofs.YtpebcphkockkkaaDoor.PE
open Go.Proofs.YtpebcphkockkkaaDoor.PF
set_option linter.unusedVariables false
set_option linter.unusedSimpArgs false

/-! ### tiklaw1_RateOrder: function 4 -/
def tiklaw1_RateOrder.j0 : Nat → Nat → Nat → Int → Bool → Option (Bool)
  | 0, _, _, _, _ => none
  | k + 1, x0, x1, x7, x55 => if x55 = true then (some false) else ((rate_From.f 9218868437227405313).bind fun t109 => ((tiklaw1_first.f).bind fun t110 => (if t110 = true then ((rate_Order.f x0 t109).bind fun t111 => (if t111 ≤ 0 then ((rate_From.f 18442240474082181125).bind fun t112 => ((rate_Order.f t109 t112).bind fun t113 => (if t113 = 0 then (if (FloatKind.f64.format.order x0 0 != some Ordering.eq) = true then (if ((FloatKind.f64.format.order x0 x1 == some Ordering.lt) = true) then (some (x7 == (-1))) else (some true)) else (if x7 = 0 then (if (FloatKind.f64.format.order x1 0 == some Ordering.eq) = true then (if ((FloatKind.f64.format.order x0 x1 == some Ordering.lt) = true) then (some (x7 == (-1))) else (some true)) else (some false)) else (if ((FloatKind.f64.format.order x0 x1 == some Ordering.lt) = true) then (some (x7 == (-1))) else (some true)))) else (some false)))) else (some false))) else (some false))))
def tiklaw1_RateOrder.f (k : Nat) (a0 : Nat) (a1 : Nat) (a2 : Nat) : Option (Bool) := (tiklaw1_first.f).bind fun t101 => (if t101 = true then ((rate_Order.f a0 a1).bind fun t102 => ((rate_Order.f a1 a2).bind fun t103 => ((rate_Order.f a0 a2).bind fun t104 => ((rate_Order.f a1 a0).bind fun t105 => (if t102 = (wrap64 (-t105)) then ((rate_Order.f a0 a0).bind fun t106 => (if t106 = 0 then ((rate_Bits.f a0).bind fun t107 => ((rate_Bits.f a1).bind fun t108 => (if ((t102 == 0) != (t107 == t108)) = true then (tiklaw1_RateOrder.j0 k a0 a1 t102 true) else (if t102 ≤ 0 then (if t103 ≤ 0 then (tiklaw1_RateOrder.j0 k a0 a1 t102 (decide (t104 > 0))) else (tiklaw1_RateOrder.j0 k a0 a1 t102 false)) else (tiklaw1_RateOrder.j0 k a0 a1 t102 false))))) else (tiklaw1_RateOrder.j0 k a0 a1 t102 true))) else (tiklaw1_RateOrder.j0 k a0 a1 t102 true)))))) else (some false))
theorem tiklaw1_RateOrder.mono_l : ∀ k, (∀ y0 y1 y2 y3, LeO (tiklaw1_RateOrder.j0 k y0 y1 y2 y3) (tiklaw1_RateOrder.j0 (k + 1) y0 y1 y2 y3))
  | 0 => fun _ _ _ _ r h => by simp [tiklaw1_RateOrder.j0] at h
  | k + 1 => by
    have ih0 := tiklaw1_RateOrder.mono_l k
    · intro y0 y1 y2 y3
      unfold tiklaw1_RateOrder.j0
      repeat' first
      | (with_reducible exact ih0 _ _ _ _)
      | (with_reducible exact LeO.refl _)
      | (with_reducible exact LeO.none _)
      | (with_reducible refine LeO.ite ?_ ?_)
      | (with_reducible refine LeO.bind ?_ (fun _ => ?_))
      | exact ih0 _ _ _ _
      | exact LeO.none _
      | refine LeO.ite ?_ ?_
      | refine LeO.bind ?_ (fun _ => ?_)
theorem tiklaw1_RateOrder.mono : ∀ a0 a1 a2 k, LeO (tiklaw1_RateOrder.f k a0 a1 a2) (tiklaw1_RateOrder.f (k + 1) a0 a1 a2) := by
  intro a0 a1 a2 k
  have ih0 := tiklaw1_RateOrder.mono_l k
  unfold tiklaw1_RateOrder.f
  repeat' first
      | (with_reducible exact ih0 _ _ _ _)
      | (with_reducible exact LeO.refl _)
      | (with_reducible exact LeO.none _)
      | (with_reducible refine LeO.ite ?_ ?_)
      | (with_reducible refine LeO.bind ?_ (fun _ => ?_))
      | exact ih0 _ _ _ _
      | exact LeO.none _
      | refine LeO.ite ?_ ?_
      | refine LeO.bind ?_ (fun _ => ?_)
set_option maxHeartbeats 8000000 in
set_option maxRecDepth 100000 in
theorem tiklaw1_RateOrder.calls (k : Nat) (a0 : Nat) (a1 : Nat) (a2 : Nat) (r : Bool) (w : World) (hT : TabW w) (hr_ : Aside0 (r = true)) (h : tiklaw1_RateOrder.f k a0 a1 a2 = some r) :
    Calls Tryd.prog 4 #[.float .f64 a0, .float .f64 a1, .float .f64 a2] w fun e w' => e = .returned (.bool r) ∧ Below w.heap.size w w' := by
  have HT := Aside0.mk hT
  clear hT
  have HB := Aside0.mk (Below.refl w.heap.size w)
  have H : ((tiklaw1_first.f).bind fun t101 => (if t101 = true then ((rate_Order.f a0 a1).bind fun t102 => ((rate_Order.f a1 a2).bind fun t103 => ((rate_Order.f a0 a2).bind fun t104 => ((rate_Order.f a1 a0).bind fun t105 => (if t102 = (wrap64 (-t105)) then ((rate_Order.f a0 a0).bind fun t106 => (if t106 = 0 then ((rate_Bits.f a0).bind fun t107 => ((rate_Bits.f a1).bind fun t108 => (if ((t102 == 0) != (t107 == t108)) = true then (tiklaw1_RateOrder.j0 k a0 a1 t102 true) else (if t102 ≤ 0 then (if t103 ≤ 0 then (tiklaw1_RateOrder.j0 k a0 a1 t102 (decide (t104 > 0))) else (tiklaw1_RateOrder.j0 k a0 a1 t102 false)) else (tiklaw1_RateOrder.j0 k a0 a1 t102 false))))) else (tiklaw1_RateOrder.j0 k a0 a1 t102 true))) else (tiklaw1_RateOrder.j0 k a0 a1 t102 true)))))) else (some false))) = some r := h
  clear h
  replace H := Option.bind_eq_some_iff.mp H
  obtain ⟨t101, A40, H⟩ := H
  replace H : (if t101 = true then ((rate_Order.f a0 a1).bind fun t102 => ((rate_Order.f a1 a2).bind fun t103 => ((rate_Order.f a0 a2).bind fun t104 => ((rate_Order.f a1 a0).bind fun t105 => (if t102 = (wrap64 (-t105)) then ((rate_Order.f a0 a0).bind fun t106 => (if t106 = 0 then ((rate_Bits.f a0).bind fun t107 => ((rate_Bits.f a1).bind fun t108 => (if ((t102 == 0) != (t107 == t108)) = true then (tiklaw1_RateOrder.j0 k a0 a1 t102 true) else (if t102 ≤ 0 then (if t103 ≤ 0 then (tiklaw1_RateOrder.j0 k a0 a1 t102 (decide (t104 > 0))) else (tiklaw1_RateOrder.j0 k a0 a1 t102 false)) else (tiklaw1_RateOrder.j0 k a0 a1 t102 false))))) else (tiklaw1_RateOrder.j0 k a0 a1 t102 true))) else (tiklaw1_RateOrder.j0 k a0 a1 t102 true)))))) else (some false)) = some r := H
  have A4 := Aside0.mk A40
  clear A40
  by_cases c5 : t101 = true
  · subst c5
    have H1 : ((rate_Order.f a0 a1).bind fun t102 => ((rate_Order.f a1 a2).bind fun t103 => ((rate_Order.f a0 a2).bind fun t104 => ((rate_Order.f a1 a0).bind fun t105 => (if t102 = (wrap64 (-t105)) then ((rate_Order.f a0 a0).bind fun t106 => (if t106 = 0 then ((rate_Bits.f a0).bind fun t107 => ((rate_Bits.f a1).bind fun t108 => (if ((t102 == 0) != (t107 == t108)) = true then (tiklaw1_RateOrder.j0 k a0 a1 t102 true) else (if t102 ≤ 0 then (if t103 ≤ 0 then (tiklaw1_RateOrder.j0 k a0 a1 t102 (decide (t104 > 0))) else (tiklaw1_RateOrder.j0 k a0 a1 t102 false)) else (tiklaw1_RateOrder.j0 k a0 a1 t102 false))))) else (tiklaw1_RateOrder.j0 k a0 a1 t102 true))) else (tiklaw1_RateOrder.j0 k a0 a1 t102 true)))))) = some r := by rw [if_pos rfl] at H; exact H
    clear H
    have H := H1
    clear H1
    replace H := Option.bind_eq_some_iff.mp H
    obtain ⟨t102, A60, H⟩ := H
    replace H : ((rate_Order.f a1 a2).bind fun t103 => ((rate_Order.f a0 a2).bind fun t104 => ((rate_Order.f a1 a0).bind fun t105 => (if t102 = (wrap64 (-t105)) then ((rate_Order.f a0 a0).bind fun t106 => (if t106 = 0 then ((rate_Bits.f a0).bind fun t107 => ((rate_Bits.f a1).bind fun t108 => (if ((t102 == 0) != (t107 == t108)) = true then (tiklaw1_RateOrder.j0 k a0 a1 t102 true) else (if t102 ≤ 0 then (if t103 ≤ 0 then (tiklaw1_RateOrder.j0 k a0 a1 t102 (decide (t104 > 0))) else (tiklaw1_RateOrder.j0 k a0 a1 t102 false)) else (tiklaw1_RateOrder.j0 k a0 a1 t102 false))))) else (tiklaw1_RateOrder.j0 k a0 a1 t102 true))) else (tiklaw1_RateOrder.j0 k a0 a1 t102 true))))) = some r := H
    have A6 := Aside0.mk A60
    clear A60
    replace H := Option.bind_eq_some_iff.mp H
    obtain ⟨t103, A70, H⟩ := H
    replace H : ((rate_Order.f a0 a2).bind fun t104 => ((rate_Order.f a1 a0).bind fun t105 => (if t102 = (wrap64 (-t105)) then ((rate_Order.f a0 a0).bind fun t106 => (if t106 = 0 then ((rate_Bits.f a0).bind fun t107 => ((rate_Bits.f a1).bind fun t108 => (if ((t102 == 0) != (t107 == t108)) = true then (tiklaw1_RateOrder.j0 k a0 a1 t102 true) else (if t102 ≤ 0 then (if t103 ≤ 0 then (tiklaw1_RateOrder.j0 k a0 a1 t102 (decide (t104 > 0))) else (tiklaw1_RateOrder.j0 k a0 a1 t102 false)) else (tiklaw1_RateOrder.j0 k a0 a1 t102 false))))) else (tiklaw1_RateOrder.j0 k a0 a1 t102 true))) else (tiklaw1_RateOrder.j0 k a0 a1 t102 true)))) = some r := H
    have A7 := Aside0.mk A70
    clear A70
    replace H := Option.bind_eq_some_iff.mp H
    obtain ⟨t104, A80, H⟩ := H
    replace H : ((rate_Order.f a1 a0).bind fun t105 => (if t102 = (wrap64 (-t105)) then ((rate_Order.f a0 a0).bind fun t106 => (if t106 = 0 then ((rate_Bits.f a0).bind fun t107 => ((rate_Bits.f a1).bind fun t108 => (if ((t102 == 0) != (t107 == t108)) = true then (tiklaw1_RateOrder.j0 k a0 a1 t102 true) else (if t102 ≤ 0 then (if t103 ≤ 0 then (tiklaw1_RateOrder.j0 k a0 a1 t102 (decide (t104 > 0))) else (tiklaw1_RateOrder.j0 k a0 a1 t102 false)) else (tiklaw1_RateOrder.j0 k a0 a1 t102 false))))) else (tiklaw1_RateOrder.j0 k a0 a1 t102 true))) else (tiklaw1_RateOrder.j0 k a0 a1 t102 true))) = some r := H
    have A8 := Aside0.mk A80
    clear A80
    have HC9 := Aside0.mk H
    clear H
    go_enter Tryd.func4, Tryd.ntmps4
    go_upto_region 4 with (first | (first | simp only [neg_run] | simp only [sub_runT (by assumption)]) | ((with_reducible refine gate_callee (f := 11) rfl ?_); refine goesL_ (some 11) rfl rfl Tryd.func11 (by kernel_rfl) rfl #[] rfl (by (try simp only [List.map_toArray, List.map_cons, List.map_nil]); first | done | rfl | (simp only [List.length_drop, List.length_take]; rfl)) ?_; (with_reducible refine (tiklaw1_first.calls  true _ ?side1 A4.out).mono ?_); (case side1 => exact tabAt HT.out (by repeat (first | (with_reducible first | exact HB.out | apply below_alloc | apply pw_below_drewN | apply below_drew1) | exact HB.out))); rintro e w10 ⟨rfl, hb⟩; refine ⟨_, rfl, ?_⟩; have n0_ := Aside0.mk (below_step (by repeat (first | (with_reducible first | exact HB.out | apply below_alloc | apply pw_below_drewN | apply below_drew1) | exact HB.out)) hb); clear HB; have HB := n0_; clear n0_; (try clear hb); (try clear hb2); (try clear hk); (try clear hi)) | ((with_reducible refine gate_callee (f := 19) rfl ?_); refine goesL_ (some 15) rfl rfl Tryd.func19 (by kernel_rfl) rfl #[.float .f64 a0, .float .f64 a1] rfl (by (try simp only [List.map_toArray, List.map_cons, List.map_nil]); first | done | rfl | (simp only [List.length_drop, List.length_take]; rfl)) ?_; (with_reducible refine (rate_Order.calls a0 a1 t102 _ A6.out).mono ?_); rintro e w11 ⟨rfl, hb⟩; refine ⟨_, rfl, ?_⟩; have n0_ := Aside0.mk (below_step (by repeat (first | (with_reducible first | exact HB.out | apply below_alloc | apply pw_below_drewN | apply below_drew1) | exact HB.out)) hb); clear HB; have HB := n0_; clear n0_; (try clear hb); (try clear hb2); (try clear hk); (try clear hi)) | ((with_reducible refine gate_callee (f := 19) rfl ?_); refine goesL_ (some 18) rfl rfl Tryd.func19 (by kernel_rfl) rfl #[.float .f64 a1, .float .f64 a2] rfl (by (try simp only [List.map_toArray, List.map_cons, List.map_nil]); first | done | rfl | (simp only [List.length_drop, List.length_take]; rfl)) ?_; (with_reducible refine (rate_Order.calls a1 a2 t103 _ A7.out).mono ?_); rintro e w12 ⟨rfl, hb⟩; refine ⟨_, rfl, ?_⟩; have n0_ := Aside0.mk (below_step (by repeat (first | (with_reducible first | exact HB.out | apply below_alloc | apply pw_below_drewN | apply below_drew1) | exact HB.out)) hb); clear HB; have HB := n0_; clear n0_; (try clear hb); (try clear hb2); (try clear hk); (try clear hi)) | ((with_reducible refine gate_callee (f := 19) rfl ?_); refine goesL_ (some 21) rfl rfl Tryd.func19 (by kernel_rfl) rfl #[.float .f64 a0, .float .f64 a2] rfl (by (try simp only [List.map_toArray, List.map_cons, List.map_nil]); first | done | rfl | (simp only [List.length_drop, List.length_take]; rfl)) ?_; (with_reducible refine (rate_Order.calls a0 a2 t104 _ A8.out).mono ?_); rintro e w13 ⟨rfl, hb⟩; refine ⟨_, rfl, ?_⟩; have n0_ := Aside0.mk (below_step (by repeat (first | (with_reducible first | exact HB.out | apply below_alloc | apply pw_below_drewN | apply below_drew1) | exact HB.out)) hb); clear HB; have HB := n0_; clear n0_; (try clear hb); (try clear hb2); (try clear hk); (try clear hi)))
    (try simp only [Act.put, List.setIfInBounds_toArray, List.set_cons_zero, List.set_cons_succ])
    go_cut [55] (fun v55 wc => ∃ (kq : Nat) (x55_8 : Bool), v55 = .bool x55_8 ∧ Aside0 (tiklaw1_RateOrder.j0 kq a0 a1 t102 x55_8 = some r) ∧ Aside0 (kq ≤ k) ∧ Aside0 (Below w.heap.size w wc))
    case first =>
      have H := HC9.out
      clear HC9
      replace H := Option.bind_eq_some_iff.mp H
      obtain ⟨t105, A140, H⟩ := H
      replace H : (if t102 = (wrap64 (-t105)) then ((rate_Order.f a0 a0).bind fun t106 => (if t106 = 0 then ((rate_Bits.f a0).bind fun t107 => ((rate_Bits.f a1).bind fun t108 => (if ((t102 == 0) != (t107 == t108)) = true then (tiklaw1_RateOrder.j0 k a0 a1 t102 true) else (if t102 ≤ 0 then (if t103 ≤ 0 then (tiklaw1_RateOrder.j0 k a0 a1 t102 (decide (t104 > 0))) else (tiklaw1_RateOrder.j0 k a0 a1 t102 false)) else (tiklaw1_RateOrder.j0 k a0 a1 t102 false))))) else (tiklaw1_RateOrder.j0 k a0 a1 t102 true))) else (tiklaw1_RateOrder.j0 k a0 a1 t102 true)) = some r := H
      have A14 := Aside0.mk A140
      clear A140
      by_cases c15 : t102 = (wrap64 (-t105))
      · rw [if_pos c15] at H
        have c15b0 : (t102 == (wrap64 (-t105))) = true := beq_iff_eq.mpr c15
        have c15b1 : (t102 != (wrap64 (-t105))) = false := bne_eq_false_iff_eq.mpr c15
        clear c15
        (first | rw [c15b0] | (simp only [i64_w, i32_w]; rw [c15b0]) | skip)
        replace H := Option.bind_eq_some_iff.mp H
        obtain ⟨t106, A160, H⟩ := H
        replace H : (if t106 = 0 then ((rate_Bits.f a0).bind fun t107 => ((rate_Bits.f a1).bind fun t108 => (if ((t102 == 0) != (t107 == t108)) = true then (tiklaw1_RateOrder.j0 k a0 a1 t102 true) else (if t102 ≤ 0 then (if t103 ≤ 0 then (tiklaw1_RateOrder.j0 k a0 a1 t102 (decide (t104 > 0))) else (tiklaw1_RateOrder.j0 k a0 a1 t102 false)) else (tiklaw1_RateOrder.j0 k a0 a1 t102 false))))) else (tiklaw1_RateOrder.j0 k a0 a1 t102 true)) = some r := H
        have A16 := Aside0.mk A160
        clear A160
        by_cases c17 : t106 = 0
        · rw [if_pos c17] at H
          have c17b0 : (t106 == 0) = true := beq_iff_eq.mpr c17
          have c17b1 : (t106 != 0) = false := bne_eq_false_iff_eq.mpr c17
          clear c17
          replace H := Option.bind_eq_some_iff.mp H
          obtain ⟨t107, A180, H⟩ := H
          replace H : ((rate_Bits.f a1).bind fun t108 => (if ((t102 == 0) != (t107 == t108)) = true then (tiklaw1_RateOrder.j0 k a0 a1 t102 true) else (if t102 ≤ 0 then (if t103 ≤ 0 then (tiklaw1_RateOrder.j0 k a0 a1 t102 (decide (t104 > 0))) else (tiklaw1_RateOrder.j0 k a0 a1 t102 false)) else (tiklaw1_RateOrder.j0 k a0 a1 t102 false)))) = some r := H
          have A18 := Aside0.mk A180
          clear A180
          replace H := Option.bind_eq_some_iff.mp H
          obtain ⟨t108, A190, H⟩ := H
          replace H : (if ((t102 == 0) != (t107 == t108)) = true then (tiklaw1_RateOrder.j0 k a0 a1 t102 true) else (if t102 ≤ 0 then (if t103 ≤ 0 then (tiklaw1_RateOrder.j0 k a0 a1 t102 (decide (t104 > 0))) else (tiklaw1_RateOrder.j0 k a0 a1 t102 false)) else (tiklaw1_RateOrder.j0 k a0 a1 t102 false))) = some r := H
          have A19 := Aside0.mk A190
          clear A190
          by_cases c20 : ((t102 == 0) != (t107 == t108)) = true
          · rw [if_pos c20] at H
            have c20b0 : ((t102 == 0) != (t107 == t108)) = true := c20
            (try (have c20b1 : decide ((t102 == 0) = (t107 == t108)) = false := by simpa using c20))
            (try (have c20b2 : ((t102 == 0) == (t107 == t108)) = false := by simpa using c20))
            (try (have c20b3 : ¬ ((t102 == 0) = (t107 == t108)) := by simpa using c20))
            clear c20
            have H' := Aside0.mk H
            clear H
            go_wp2_with (first | (first | simp only [neg_run] | simp only [sub_runT (by assumption)]) | ((with_reducible refine gate_callee (f := 19) rfl ?_); refine goesL_ (some 25) rfl rfl Tryd.func19 (by kernel_rfl) rfl #[.float .f64 a1, .float .f64 a0] rfl (by (try simp only [List.map_toArray, List.map_cons, List.map_nil]); first | done | rfl | (simp only [List.length_drop, List.length_take]; rfl)) ?_; (with_reducible refine (rate_Order.calls a1 a0 t105 _ A14.out).mono ?_); rintro e w21 ⟨rfl, hb⟩; refine ⟨_, rfl, ?_⟩; have n0_ := Aside0.mk (below_step (by repeat (first | (with_reducible first | exact HB.out | apply below_alloc | apply pw_below_drewN | apply below_drew1) | exact HB.out)) hb); clear HB; have HB := n0_; clear n0_; (try clear hb); (try clear hb2); (try clear hk); (try clear hi)) | (go_at_call 19; (with_reducible refine (rate_Order.calls a0 a0 t106 _ A16.out).mono ?_); rintro e w22 ⟨rfl, hb⟩; have n0_ := Aside0.mk (below_step (by repeat (first | (with_reducible first | exact HB.out | apply below_alloc | apply pw_below_drewN | apply below_drew1) | exact HB.out)) hb); clear HB; have HB := n0_; clear n0_; (try clear hb); (try clear hb2); (try clear hk); (try clear hi)) | (go_at_call 17; (with_reducible refine (rate_Bits.calls a0 t107 _ A18.out).mono ?_); rintro e w23 ⟨rfl, hb⟩; have n0_ := Aside0.mk (below_step (by repeat (first | (with_reducible first | exact HB.out | apply below_alloc | apply pw_below_drewN | apply below_drew1) | exact HB.out)) hb); clear HB; have HB := n0_; clear n0_; (try clear hb); (try clear hb2); (try clear hk); (try clear hi)) | (go_at_call 17; (with_reducible refine (rate_Bits.calls a1 t108 _ A19.out).mono ?_); rintro e w24 ⟨rfl, hb⟩; have n0_ := Aside0.mk (below_step (by repeat (first | (with_reducible first | exact HB.out | apply below_alloc | apply pw_below_drewN | apply below_drew1) | exact HB.out)) hb); clear HB; have HB := n0_; clear n0_; (try clear hb); (try clear hb2); (try clear hk); (try clear hi)))
            go_meet
            case rel => exact ⟨_, (true), (by first | rfl | (simp; done) | (simp [*]; done)), H', ⟨by first | omega | exact Nat.le_refl _⟩, ⟨by repeat (first | (with_reducible first | exact HB.out | apply below_alloc | apply pw_below_drewN | apply below_drew1) | exact HB.out)⟩⟩
          · rw [if_neg c20] at H
            have c20b0 : ((t102 == 0) != (t107 == t108)) = false := by simpa using c20
            (try (have c20b1 : decide ((t102 == 0) = (t107 == t108)) = true := by simpa using c20))
            (try (have c20b2 : ((t102 == 0) == (t107 == t108)) = true := by simpa using c20))
            clear c20
            by_cases c25 : t102 ≤ 0
            · rw [if_pos c25] at H
              have c25b0 : decide (t102 ≤ 0) = true := decide_eq_true c25
              clear c25
              by_cases c26 : t103 ≤ 0
              · rw [if_pos c26] at H
                have c26b0 : decide (t103 ≤ 0) = true := decide_eq_true c26
                clear c26
                have H' := Aside0.mk H
                clear H
                go_wp2_with (first | (first | simp only [neg_run] | simp only [sub_runT (by assumption)]) | ((with_reducible refine gate_callee (f := 19) rfl ?_); refine goesL_ (some 25) rfl rfl Tryd.func19 (by kernel_rfl) rfl #[.float .f64 a1, .float .f64 a0] rfl (by (try simp only [List.map_toArray, List.map_cons, List.map_nil]); first | done | rfl | (simp only [List.length_drop, List.length_take]; rfl)) ?_; (with_reducible refine (rate_Order.calls a1 a0 t105 _ A14.out).mono ?_); rintro e w27 ⟨rfl, hb⟩; refine ⟨_, rfl, ?_⟩; have n0_ := Aside0.mk (below_step (by repeat (first | (with_reducible first | exact HB.out | apply below_alloc | apply pw_below_drewN | apply below_drew1) | exact HB.out)) hb); clear HB; have HB := n0_; clear n0_; (try clear hb); (try clear hb2); (try clear hk); (try clear hi)) | (go_at_call 19; (with_reducible refine (rate_Order.calls a0 a0 t106 _ A16.out).mono ?_); rintro e w28 ⟨rfl, hb⟩; have n0_ := Aside0.mk (below_step (by repeat (first | (with_reducible first | exact HB.out | apply below_alloc | apply pw_below_drewN | apply below_drew1) | exact HB.out)) hb); clear HB; have HB := n0_; clear n0_; (try clear hb); (try clear hb2); (try clear hk); (try clear hi)) | (go_at_call 17; (with_reducible refine (rate_Bits.calls a0 t107 _ A18.out).mono ?_); rintro e w29 ⟨rfl, hb⟩; have n0_ := Aside0.mk (below_step (by repeat (first | (with_reducible first | exact HB.out | apply below_alloc | apply pw_below_drewN | apply below_drew1) | exact HB.out)) hb); clear HB; have HB := n0_; clear n0_; (try clear hb); (try clear hb2); (try clear hk); (try clear hi)) | (go_at_call 17; (with_reducible refine (rate_Bits.calls a1 t108 _ A19.out).mono ?_); rintro e w30 ⟨rfl, hb⟩; have n0_ := Aside0.mk (below_step (by repeat (first | (with_reducible first | exact HB.out | apply below_alloc | apply pw_below_drewN | apply below_drew1) | exact HB.out)) hb); clear HB; have HB := n0_; clear n0_; (try clear hb); (try clear hb2); (try clear hk); (try clear hi)))
                go_meet
                case rel => exact ⟨_, (decide (t104 > 0)), (by first | rfl | (simp; done) | (simp [*]; done)), H', ⟨by first | omega | exact Nat.le_refl _⟩, ⟨by repeat (first | (with_reducible first | exact HB.out | apply below_alloc | apply pw_below_drewN | apply below_drew1) | exact HB.out)⟩⟩
              · rw [if_neg c26] at H
                have c26b0 : decide (t103 ≤ 0) = false := decide_eq_false c26
                clear c26
                have H' := Aside0.mk H
                clear H
                go_wp2_with (first | (first | simp only [neg_run] | simp only [sub_runT (by assumption)]) | ((with_reducible refine gate_callee (f := 19) rfl ?_); refine goesL_ (some 25) rfl rfl Tryd.func19 (by kernel_rfl) rfl #[.float .f64 a1, .float .f64 a0] rfl (by (try simp only [List.map_toArray, List.map_cons, List.map_nil]); first | done | rfl | (simp only [List.length_drop, List.length_take]; rfl)) ?_; (with_reducible refine (rate_Order.calls a1 a0 t105 _ A14.out).mono ?_); rintro e w31 ⟨rfl, hb⟩; refine ⟨_, rfl, ?_⟩; have n0_ := Aside0.mk (below_step (by repeat (first | (with_reducible first | exact HB.out | apply below_alloc | apply pw_below_drewN | apply below_drew1) | exact HB.out)) hb); clear HB; have HB := n0_; clear n0_; (try clear hb); (try clear hb2); (try clear hk); (try clear hi)) | (go_at_call 19; (with_reducible refine (rate_Order.calls a0 a0 t106 _ A16.out).mono ?_); rintro e w32 ⟨rfl, hb⟩; have n0_ := Aside0.mk (below_step (by repeat (first | (with_reducible first | exact HB.out | apply below_alloc | apply pw_below_drewN | apply below_drew1) | exact HB.out)) hb); clear HB; have HB := n0_; clear n0_; (try clear hb); (try clear hb2); (try clear hk); (try clear hi)) | (go_at_call 17; (with_reducible refine (rate_Bits.calls a0 t107 _ A18.out).mono ?_); rintro e w33 ⟨rfl, hb⟩; have n0_ := Aside0.mk (below_step (by repeat (first | (with_reducible first | exact HB.out | apply below_alloc | apply pw_below_drewN | apply below_drew1) | exact HB.out)) hb); clear HB; have HB := n0_; clear n0_; (try clear hb); (try clear hb2); (try clear hk); (try clear hi)) | (go_at_call 17; (with_reducible refine (rate_Bits.calls a1 t108 _ A19.out).mono ?_); rintro e w34 ⟨rfl, hb⟩; have n0_ := Aside0.mk (below_step (by repeat (first | (with_reducible first | exact HB.out | apply below_alloc | apply pw_below_drewN | apply below_drew1) | exact HB.out)) hb); clear HB; have HB := n0_; clear n0_; (try clear hb); (try clear hb2); (try clear hk); (try clear hi)))
                go_meet
                case rel => exact ⟨_, (false), (by first | rfl | (simp; done) | (simp [*]; done)), H', ⟨by first | omega | exact Nat.le_refl _⟩, ⟨by repeat (first | (with_reducible first | exact HB.out | apply below_alloc | apply pw_below_drewN | apply below_drew1) | exact HB.out)⟩⟩
            · rw [if_neg c25] at H
              have c25b0 : decide (t102 ≤ 0) = false := decide_eq_false c25
              clear c25
              have H' := Aside0.mk H
              clear H
              go_wp2_with (first | (first | simp only [neg_run] | simp only [sub_runT (by assumption)]) | ((with_reducible refine gate_callee (f := 19) rfl ?_); refine goesL_ (some 25) rfl rfl Tryd.func19 (by kernel_rfl) rfl #[.float .f64 a1, .float .f64 a0] rfl (by (try simp only [List.map_toArray, List.map_cons, List.map_nil]); first | done | rfl | (simp only [List.length_drop, List.length_take]; rfl)) ?_; (with_reducible refine (rate_Order.calls a1 a0 t105 _ A14.out).mono ?_); rintro e w35 ⟨rfl, hb⟩; refine ⟨_, rfl, ?_⟩; have n0_ := Aside0.mk (below_step (by repeat (first | (with_reducible first | exact HB.out | apply below_alloc | apply pw_below_drewN | apply below_drew1) | exact HB.out)) hb); clear HB; have HB := n0_; clear n0_; (try clear hb); (try clear hb2); (try clear hk); (try clear hi)) | (go_at_call 19; (with_reducible refine (rate_Order.calls a0 a0 t106 _ A16.out).mono ?_); rintro e w36 ⟨rfl, hb⟩; have n0_ := Aside0.mk (below_step (by repeat (first | (with_reducible first | exact HB.out | apply below_alloc | apply pw_below_drewN | apply below_drew1) | exact HB.out)) hb); clear HB; have HB := n0_; clear n0_; (try clear hb); (try clear hb2); (try clear hk); (try clear hi)) | (go_at_call 17; (with_reducible refine (rate_Bits.calls a0 t107 _ A18.out).mono ?_); rintro e w37 ⟨rfl, hb⟩; have n0_ := Aside0.mk (below_step (by repeat (first | (with_reducible first | exact HB.out | apply below_alloc | apply pw_below_drewN | apply below_drew1) | exact HB.out)) hb); clear HB; have HB := n0_; clear n0_; (try clear hb); (try clear hb2); (try clear hk); (try clear hi)) | (go_at_call 17; (with_reducible refine (rate_Bits.calls a1 t108 _ A19.out).mono ?_); rintro e w38 ⟨rfl, hb⟩; have n0_ := Aside0.mk (below_step (by repeat (first | (with_reducible first | exact HB.out | apply below_alloc | apply pw_below_drewN | apply below_drew1) | exact HB.out)) hb); clear HB; have HB := n0_; clear n0_; (try clear hb); (try clear hb2); (try clear hk); (try clear hi)))
              go_meet
              case rel => exact ⟨_, (false), (by first | rfl | (simp; done) | (simp [*]; done)), H', ⟨by first | omega | exact Nat.le_refl _⟩, ⟨by repeat (first | (with_reducible first | exact HB.out | apply below_alloc | apply pw_below_drewN | apply below_drew1) | exact HB.out)⟩⟩
        · rw [if_neg c17] at H
          have c17b0 : (t106 == 0) = false := beq_eq_false_iff_ne.mpr c17
          have c17b1 : (t106 != 0) = true := bne_iff_ne.mpr c17
          have H' := Aside0.mk H
          clear H
          go_wp2_with (first | (first | simp only [neg_run] | simp only [sub_runT (by assumption)]) | ((with_reducible refine gate_callee (f := 19) rfl ?_); refine goesL_ (some 25) rfl rfl Tryd.func19 (by kernel_rfl) rfl #[.float .f64 a1, .float .f64 a0] rfl (by (try simp only [List.map_toArray, List.map_cons, List.map_nil]); first | done | rfl | (simp only [List.length_drop, List.length_take]; rfl)) ?_; (with_reducible refine (rate_Order.calls a1 a0 t105 _ A14.out).mono ?_); rintro e w39 ⟨rfl, hb⟩; refine ⟨_, rfl, ?_⟩; have n0_ := Aside0.mk (below_step (by repeat (first | (with_reducible first | exact HB.out | apply below_alloc | apply pw_below_drewN | apply below_drew1) | exact HB.out)) hb); clear HB; have HB := n0_; clear n0_; (try clear hb); (try clear hb2); (try clear hk); (try clear hi)) | (go_at_call 19; (with_reducible refine (rate_Order.calls a0 a0 t106 _ A16.out).mono ?_); rintro e w40 ⟨rfl, hb⟩; have n0_ := Aside0.mk (below_step (by repeat (first | (with_reducible first | exact HB.out | apply below_alloc | apply pw_below_drewN | apply below_drew1) | exact HB.out)) hb); clear HB; have HB := n0_; clear n0_; (try clear hb); (try clear hb2); (try clear hk); (try clear hi)))
          go_meet
          case rel => exact ⟨_, (true), (by first | rfl | (simp; done) | (simp [*]; done)), H', ⟨by first | omega | exact Nat.le_refl _⟩, ⟨by repeat (first | (with_reducible first | exact HB.out | apply below_alloc | apply pw_below_drewN | apply below_drew1) | exact HB.out)⟩⟩
      · rw [if_neg c15] at H
        have c15b0 : (t102 == (wrap64 (-t105))) = false := beq_eq_false_iff_ne.mpr c15
        have c15b1 : (t102 != (wrap64 (-t105))) = true := bne_iff_ne.mpr c15
        (first | rw [c15b0] | (simp only [i64_w, i32_w]; rw [c15b0]) | skip)
        have H' := Aside0.mk H
        clear H
        go_wp2_with (first | (first | simp only [neg_run] | simp only [sub_runT (by assumption)]) | ((with_reducible refine gate_callee (f := 19) rfl ?_); refine goesL_ (some 25) rfl rfl Tryd.func19 (by kernel_rfl) rfl #[.float .f64 a1, .float .f64 a0] rfl (by (try simp only [List.map_toArray, List.map_cons, List.map_nil]); first | done | rfl | (simp only [List.length_drop, List.length_take]; rfl)) ?_; (with_reducible refine (rate_Order.calls a1 a0 t105 _ A14.out).mono ?_); rintro e w41 ⟨rfl, hb⟩; refine ⟨_, rfl, ?_⟩; have n0_ := Aside0.mk (below_step (by repeat (first | (with_reducible first | exact HB.out | apply below_alloc | apply pw_below_drewN | apply below_drew1) | exact HB.out)) hb); clear HB; have HB := n0_; clear n0_; (try clear hb); (try clear hb2); (try clear hk); (try clear hi)))
        go_meet
        case rel => exact ⟨_, (true), (by first | rfl | (simp; done) | (simp [*]; done)), H', ⟨by first | omega | exact Nat.le_refl _⟩, ⟨by repeat (first | (with_reducible first | exact HB.out | apply below_alloc | apply pw_below_drewN | apply below_drew1) | exact HB.out)⟩⟩
    case rest =>
      clear HC9
      try clear c1
      try clear c2
      try clear p2
      try clear c4
      try clear c5
      try clear p6
      try clear c11
      try clear c15
      try clear c15b0
      try clear c15b1
      try clear c17
      try clear c17b0
      try clear c17b1
      try clear c19
      try clear c20
      try clear c20b0
      try clear c20b1
      try clear c20b2
      try clear c25
      try clear c25b0
      try clear c26
      try clear c26b0
      obtain ⟨kq, x55_8, rfl, HA, HJ8, HB⟩ := hcut
      cases kq with
      | zero => exact absurd HA.out (by simp [tiklaw1_RateOrder.j0])
      | succ kj8 =>
        have H := HA.out
        clear HA
        simp only [tiklaw1_RateOrder.j0] at H
        by_cases c42 : x55_8 = true
        · subst c42
          have H1 : (some false) = some r := by rw [if_pos rfl] at H; exact H
          clear H
          have H := H1
          clear H1
          exact absurd ((Option.some.inj H).trans hr_.out) (by simp)
        · replace c42 := Bool.eq_false_iff.mpr c42
          subst c42
          have H1 : ((rate_From.f 9218868437227405313).bind fun t109 => ((tiklaw1_first.f).bind fun t110 => (if t110 = true then ((rate_Order.f a0 t109).bind fun t111 => (if t111 ≤ 0 then ((rate_From.f 18442240474082181125).bind fun t112 => ((rate_Order.f t109 t112).bind fun t113 => (if t113 = 0 then (if (FloatKind.f64.format.order a0 0 != some Ordering.eq) = true then (if ((FloatKind.f64.format.order a0 a1 == some Ordering.lt) = true) then (some (t102 == (-1))) else (some true)) else (if t102 = 0 then (if (FloatKind.f64.format.order a1 0 == some Ordering.eq) = true then (if ((FloatKind.f64.format.order a0 a1 == some Ordering.lt) = true) then (some (t102 == (-1))) else (some true)) else (some false)) else (if ((FloatKind.f64.format.order a0 a1 == some Ordering.lt) = true) then (some (t102 == (-1))) else (some true)))) else (some false)))) else (some false))) else (some false)))) = some r := by rw [if_neg (show ¬ (false = true) by decide)] at H; exact H
          clear H
          have H := H1
          clear H1
          replace H := Option.bind_eq_some_iff.mp H
          obtain ⟨t109, A430, H⟩ := H
          replace H : ((tiklaw1_first.f).bind fun t110 => (if t110 = true then ((rate_Order.f a0 t109).bind fun t111 => (if t111 ≤ 0 then ((rate_From.f 18442240474082181125).bind fun t112 => ((rate_Order.f t109 t112).bind fun t113 => (if t113 = 0 then (if (FloatKind.f64.format.order a0 0 != some Ordering.eq) = true then (if ((FloatKind.f64.format.order a0 a1 == some Ordering.lt) = true) then (some (t102 == (-1))) else (some true)) else (if t102 = 0 then (if (FloatKind.f64.format.order a1 0 == some Ordering.eq) = true then (if ((FloatKind.f64.format.order a0 a1 == some Ordering.lt) = true) then (some (t102 == (-1))) else (some true)) else (some false)) else (if ((FloatKind.f64.format.order a0 a1 == some Ordering.lt) = true) then (some (t102 == (-1))) else (some true)))) else (some false)))) else (some false))) else (some false))) = some r := H
          have A43 := Aside0.mk A430
          clear A430
          replace H := Option.bind_eq_some_iff.mp H
          obtain ⟨t110, A440, H⟩ := H
          replace H : (if t110 = true then ((rate_Order.f a0 t109).bind fun t111 => (if t111 ≤ 0 then ((rate_From.f 18442240474082181125).bind fun t112 => ((rate_Order.f t109 t112).bind fun t113 => (if t113 = 0 then (if (FloatKind.f64.format.order a0 0 != some Ordering.eq) = true then (if ((FloatKind.f64.format.order a0 a1 == some Ordering.lt) = true) then (some (t102 == (-1))) else (some true)) else (if t102 = 0 then (if (FloatKind.f64.format.order a1 0 == some Ordering.eq) = true then (if ((FloatKind.f64.format.order a0 a1 == some Ordering.lt) = true) then (some (t102 == (-1))) else (some true)) else (some false)) else (if ((FloatKind.f64.format.order a0 a1 == some Ordering.lt) = true) then (some (t102 == (-1))) else (some true)))) else (some false)))) else (some false))) else (some false)) = some r := H
          have A44 := Aside0.mk A440
          clear A440
          by_cases c45 : t110 = true
          · subst c45
            have H1 : ((rate_Order.f a0 t109).bind fun t111 => (if t111 ≤ 0 then ((rate_From.f 18442240474082181125).bind fun t112 => ((rate_Order.f t109 t112).bind fun t113 => (if t113 = 0 then (if (FloatKind.f64.format.order a0 0 != some Ordering.eq) = true then (if ((FloatKind.f64.format.order a0 a1 == some Ordering.lt) = true) then (some (t102 == (-1))) else (some true)) else (if t102 = 0 then (if (FloatKind.f64.format.order a1 0 == some Ordering.eq) = true then (if ((FloatKind.f64.format.order a0 a1 == some Ordering.lt) = true) then (some (t102 == (-1))) else (some true)) else (some false)) else (if ((FloatKind.f64.format.order a0 a1 == some Ordering.lt) = true) then (some (t102 == (-1))) else (some true)))) else (some false)))) else (some false))) = some r := by rw [if_pos rfl] at H; exact H
            clear H
            have H := H1
            clear H1
            replace H := Option.bind_eq_some_iff.mp H
            obtain ⟨t111, A460, H⟩ := H
            replace H : (if t111 ≤ 0 then ((rate_From.f 18442240474082181125).bind fun t112 => ((rate_Order.f t109 t112).bind fun t113 => (if t113 = 0 then (if (FloatKind.f64.format.order a0 0 != some Ordering.eq) = true then (if ((FloatKind.f64.format.order a0 a1 == some Ordering.lt) = true) then (some (t102 == (-1))) else (some true)) else (if t102 = 0 then (if (FloatKind.f64.format.order a1 0 == some Ordering.eq) = true then (if ((FloatKind.f64.format.order a0 a1 == some Ordering.lt) = true) then (some (t102 == (-1))) else (some true)) else (some false)) else (if ((FloatKind.f64.format.order a0 a1 == some Ordering.lt) = true) then (some (t102 == (-1))) else (some true)))) else (some false)))) else (some false)) = some r := H
            have A46 := Aside0.mk A460
            clear A460
            by_cases c47 : t111 ≤ 0
            · rw [if_pos c47] at H
              have c47b0 : decide (t111 ≤ 0) = true := decide_eq_true c47
              clear c47
              replace H := Option.bind_eq_some_iff.mp H
              obtain ⟨t112, A480, H⟩ := H
              replace H : ((rate_Order.f t109 t112).bind fun t113 => (if t113 = 0 then (if (FloatKind.f64.format.order a0 0 != some Ordering.eq) = true then (if ((FloatKind.f64.format.order a0 a1 == some Ordering.lt) = true) then (some (t102 == (-1))) else (some true)) else (if t102 = 0 then (if (FloatKind.f64.format.order a1 0 == some Ordering.eq) = true then (if ((FloatKind.f64.format.order a0 a1 == some Ordering.lt) = true) then (some (t102 == (-1))) else (some true)) else (some false)) else (if ((FloatKind.f64.format.order a0 a1 == some Ordering.lt) = true) then (some (t102 == (-1))) else (some true)))) else (some false))) = some r := H
              have A48 := Aside0.mk A480
              clear A480
              replace H := Option.bind_eq_some_iff.mp H
              obtain ⟨t113, A490, H⟩ := H
              replace H : (if t113 = 0 then (if (FloatKind.f64.format.order a0 0 != some Ordering.eq) = true then (if ((FloatKind.f64.format.order a0 a1 == some Ordering.lt) = true) then (some (t102 == (-1))) else (some true)) else (if t102 = 0 then (if (FloatKind.f64.format.order a1 0 == some Ordering.eq) = true then (if ((FloatKind.f64.format.order a0 a1 == some Ordering.lt) = true) then (some (t102 == (-1))) else (some true)) else (some false)) else (if ((FloatKind.f64.format.order a0 a1 == some Ordering.lt) = true) then (some (t102 == (-1))) else (some true)))) else (some false)) = some r := H
              have A49 := Aside0.mk A490
              clear A490
              by_cases c50 : t113 = 0
              · rw [if_pos c50] at H
                have c50b0 : (t113 == 0) = true := beq_iff_eq.mpr c50
                have c50b1 : (t113 != 0) = false := bne_eq_false_iff_eq.mpr c50
                clear c50
                by_cases c51 : (FloatKind.f64.format.order a0 0 != some Ordering.eq) = true
                · rw [if_pos c51] at H
                  have c51b0 : (FloatKind.f64.format.order a0 0 != some Ordering.eq) = true := c51
                  (try (have c51b1 : decide (FloatKind.f64.format.order a0 0 = some Ordering.eq) = false := by simpa using c51))
                  (try (have c51b2 : (FloatKind.f64.format.order a0 0 == some Ordering.eq) = false := by simpa using c51))
                  (try (have c51b3 : ¬ (FloatKind.f64.format.order a0 0 = some Ordering.eq) := by simpa using c51))
                  clear c51
                  by_cases c52 : ((FloatKind.f64.format.order a0 a1 == some Ordering.lt) = true)
                  · rw [if_pos c52] at H
                    have c52b0 : (FloatKind.f64.format.order a0 a1 == some Ordering.lt) = true := c52
                    (try (have c52b1 : decide (FloatKind.f64.format.order a0 a1 = some Ordering.lt) = true := by simpa using c52))
                    (try (have c52b2 : (FloatKind.f64.format.order a0 a1 == some Ordering.lt) = true := by simpa using c52))
                    clear c52
                    obtain rfl := Option.some.inj H
                    go_wp2_with (first | (first | simp only [neg_run] | simp only [sub_runT (by assumption)]) | ((with_reducible refine gate_callee (f := 13) rfl ?_); refine goesL_ (some 56) rfl rfl Tryd.func13 (by kernel_rfl) rfl #[.int .u64 9218868437227405313] rfl (by (try simp only [List.map_toArray, List.map_cons, List.map_nil]); first | done | rfl | (simp only [List.length_drop, List.length_take]; rfl)) ?_; (with_reducible refine (rate_From.calls 9218868437227405313 t109 _ A43.out).mono ?_); rintro e w53 ⟨rfl, hb⟩; refine ⟨_, rfl, ?_⟩; have n0_ := Aside0.mk (below_step (by repeat (first | (with_reducible first | exact HB.out | apply below_alloc | apply pw_below_drewN | apply below_drew1) | exact HB.out)) hb); clear HB; have HB := n0_; clear n0_; (try clear hb); (try clear hb2); (try clear hk); (try clear hi)) | ((with_reducible refine gate_callee (f := 11) rfl ?_); refine goesL_ (some 57) rfl rfl Tryd.func11 (by kernel_rfl) rfl #[] rfl (by (try simp only [List.map_toArray, List.map_cons, List.map_nil]); first | done | rfl | (simp only [List.length_drop, List.length_take]; rfl)) ?_; (with_reducible refine (tiklaw1_first.calls  true _ ?side1 A44.out).mono ?_); (case side1 => exact tabAt HT.out (by repeat (first | (with_reducible first | exact HB.out | apply below_alloc | apply pw_below_drewN | apply below_drew1) | exact HB.out))); rintro e w54 ⟨rfl, hb⟩; refine ⟨_, rfl, ?_⟩; have n0_ := Aside0.mk (below_step (by repeat (first | (with_reducible first | exact HB.out | apply below_alloc | apply pw_below_drewN | apply below_drew1) | exact HB.out)) hb); clear HB; have HB := n0_; clear n0_; (try clear hb); (try clear hb2); (try clear hk); (try clear hi)) | (go_at_call 19; (with_reducible refine (rate_Order.calls a0 t109 t111 _ A46.out).mono ?_); rintro e w55 ⟨rfl, hb⟩; have n0_ := Aside0.mk (below_step (by repeat (first | (with_reducible first | exact HB.out | apply below_alloc | apply pw_below_drewN | apply below_drew1) | exact HB.out)) hb); clear HB; have HB := n0_; clear n0_; (try clear hb); (try clear hb2); (try clear hk); (try clear hi)) | (go_at_call 13; (with_reducible refine (rate_From.calls 18442240474082181125 t112 _ A48.out).mono ?_); rintro e w56 ⟨rfl, hb⟩; have n0_ := Aside0.mk (below_step (by repeat (first | (with_reducible first | exact HB.out | apply below_alloc | apply pw_below_drewN | apply below_drew1) | exact HB.out)) hb); clear HB; have HB := n0_; clear n0_; (try clear hb); (try clear hb2); (try clear hk); (try clear hi)) | (go_at_call 19; (with_reducible refine (rate_Order.calls t109 t112 t113 _ A49.out).mono ?_); rintro e w57 ⟨rfl, hb⟩; have n0_ := Aside0.mk (below_step (by repeat (first | (with_reducible first | exact HB.out | apply below_alloc | apply pw_below_drewN | apply below_drew1) | exact HB.out)) hb); clear HB; have HB := n0_; clear n0_; (try clear hb); (try clear hb2); (try clear hk); (try clear hi)))
                    go_ret
                    exact ⟨by first | rfl | (simp [errW_none, errW_some] <;> rfl) | (simp [*, errW_none, errW_some] <;> rfl), by repeat (first | (with_reducible first | exact HB.out | apply below_alloc | apply pw_below_drewN | apply below_drew1) | exact HB.out)⟩
                  · rw [if_neg c52] at H
                    have c52b0 : (FloatKind.f64.format.order a0 a1 == some Ordering.lt) = false := by simpa using c52
                    (try (have c52b1 : decide (FloatKind.f64.format.order a0 a1 = some Ordering.lt) = false := by simpa using c52))
                    (try (have c52b2 : (FloatKind.f64.format.order a0 a1 == some Ordering.lt) = false := by simpa using c52))
                    (try (have c52b3 : ¬ (FloatKind.f64.format.order a0 a1 = some Ordering.lt) := by simpa using c52))
                    clear c52
                    obtain rfl := Option.some.inj H
                    go_wp2_with (first | (first | simp only [neg_run] | simp only [sub_runT (by assumption)]) | ((with_reducible refine gate_callee (f := 13) rfl ?_); refine goesL_ (some 56) rfl rfl Tryd.func13 (by kernel_rfl) rfl #[.int .u64 9218868437227405313] rfl (by (try simp only [List.map_toArray, List.map_cons, List.map_nil]); first | done | rfl | (simp only [List.length_drop, List.length_take]; rfl)) ?_; (with_reducible refine (rate_From.calls 9218868437227405313 t109 _ A43.out).mono ?_); rintro e w58 ⟨rfl, hb⟩; refine ⟨_, rfl, ?_⟩; have n0_ := Aside0.mk (below_step (by repeat (first | (with_reducible first | exact HB.out | apply below_alloc | apply pw_below_drewN | apply below_drew1) | exact HB.out)) hb); clear HB; have HB := n0_; clear n0_; (try clear hb); (try clear hb2); (try clear hk); (try clear hi)) | ((with_reducible refine gate_callee (f := 11) rfl ?_); refine goesL_ (some 57) rfl rfl Tryd.func11 (by kernel_rfl) rfl #[] rfl (by (try simp only [List.map_toArray, List.map_cons, List.map_nil]); first | done | rfl | (simp only [List.length_drop, List.length_take]; rfl)) ?_; (with_reducible refine (tiklaw1_first.calls  true _ ?side1 A44.out).mono ?_); (case side1 => exact tabAt HT.out (by repeat (first | (with_reducible first | exact HB.out | apply below_alloc | apply pw_below_drewN | apply below_drew1) | exact HB.out))); rintro e w59 ⟨rfl, hb⟩; refine ⟨_, rfl, ?_⟩; have n0_ := Aside0.mk (below_step (by repeat (first | (with_reducible first | exact HB.out | apply below_alloc | apply pw_below_drewN | apply below_drew1) | exact HB.out)) hb); clear HB; have HB := n0_; clear n0_; (try clear hb); (try clear hb2); (try clear hk); (try clear hi)) | (go_at_call 19; (with_reducible refine (rate_Order.calls a0 t109 t111 _ A46.out).mono ?_); rintro e w60 ⟨rfl, hb⟩; have n0_ := Aside0.mk (below_step (by repeat (first | (with_reducible first | exact HB.out | apply below_alloc | apply pw_below_drewN | apply below_drew1) | exact HB.out)) hb); clear HB; have HB := n0_; clear n0_; (try clear hb); (try clear hb2); (try clear hk); (try clear hi)) | (go_at_call 13; (with_reducible refine (rate_From.calls 18442240474082181125 t112 _ A48.out).mono ?_); rintro e w61 ⟨rfl, hb⟩; have n0_ := Aside0.mk (below_step (by repeat (first | (with_reducible first | exact HB.out | apply below_alloc | apply pw_below_drewN | apply below_drew1) | exact HB.out)) hb); clear HB; have HB := n0_; clear n0_; (try clear hb); (try clear hb2); (try clear hk); (try clear hi)) | (go_at_call 19; (with_reducible refine (rate_Order.calls t109 t112 t113 _ A49.out).mono ?_); rintro e w62 ⟨rfl, hb⟩; have n0_ := Aside0.mk (below_step (by repeat (first | (with_reducible first | exact HB.out | apply below_alloc | apply pw_below_drewN | apply below_drew1) | exact HB.out)) hb); clear HB; have HB := n0_; clear n0_; (try clear hb); (try clear hb2); (try clear hk); (try clear hi)))
                    go_ret
                    exact ⟨by first | rfl | (simp [errW_none, errW_some] <;> rfl) | (simp [*, errW_none, errW_some] <;> rfl), by repeat (first | (with_reducible first | exact HB.out | apply below_alloc | apply pw_below_drewN | apply below_drew1) | exact HB.out)⟩
                · rw [if_neg c51] at H
                  have c51b0 : (FloatKind.f64.format.order a0 0 != some Ordering.eq) = false := by simpa using c51
                  (try (have c51b1 : decide (FloatKind.f64.format.order a0 0 = some Ordering.eq) = true := by simpa using c51))
                  (try (have c51b2 : (FloatKind.f64.format.order a0 0 == some Ordering.eq) = true := by simpa using c51))
                  clear c51
                  by_cases c63 : t102 = 0
                  · rw [if_pos c63] at H
                    have c63b0 : (t102 == 0) = true := beq_iff_eq.mpr c63
                    have c63b1 : (t102 != 0) = false := bne_eq_false_iff_eq.mpr c63
                    clear c63
                    by_cases c64 : (FloatKind.f64.format.order a1 0 == some Ordering.eq) = true
                    · rw [if_pos c64] at H
                      have c64b0 : (FloatKind.f64.format.order a1 0 == some Ordering.eq) = true := c64
                      (try (have c64b1 : decide (FloatKind.f64.format.order a1 0 = some Ordering.eq) = true := by simpa using c64))
                      (try (have c64b2 : (FloatKind.f64.format.order a1 0 == some Ordering.eq) = true := by simpa using c64))
                      clear c64
                      by_cases c65 : ((FloatKind.f64.format.order a0 a1 == some Ordering.lt) = true)
                      · rw [if_pos c65] at H
                        have c65b0 : (FloatKind.f64.format.order a0 a1 == some Ordering.lt) = true := c65
                        (try (have c65b1 : decide (FloatKind.f64.format.order a0 a1 = some Ordering.lt) = true := by simpa using c65))
                        (try (have c65b2 : (FloatKind.f64.format.order a0 a1 == some Ordering.lt) = true := by simpa using c65))
                        clear c65
                        obtain rfl := Option.some.inj H
                        go_wp2_with (first | (first | simp only [neg_run] | simp only [sub_runT (by assumption)]) | ((with_reducible refine gate_callee (f := 13) rfl ?_); refine goesL_ (some 56) rfl rfl Tryd.func13 (by kernel_rfl) rfl #[.int .u64 9218868437227405313] rfl (by (try simp only [List.map_toArray, List.map_cons, List.map_nil]); first | done | rfl | (simp only [List.length_drop, List.length_take]; rfl)) ?_; (with_reducible refine (rate_From.calls 9218868437227405313 t109 _ A43.out).mono ?_); rintro e w66 ⟨rfl, hb⟩; refine ⟨_, rfl, ?_⟩; have n0_ := Aside0.mk (below_step (by repeat (first | (with_reducible first | exact HB.out | apply below_alloc | apply pw_below_drewN | apply below_drew1) | exact HB.out)) hb); clear HB; have HB := n0_; clear n0_; (try clear hb); (try clear hb2); (try clear hk); (try clear hi)) | ((with_reducible refine gate_callee (f := 11) rfl ?_); refine goesL_ (some 57) rfl rfl Tryd.func11 (by kernel_rfl) rfl #[] rfl (by (try simp only [List.map_toArray, List.map_cons, List.map_nil]); first | done | rfl | (simp only [List.length_drop, List.length_take]; rfl)) ?_; (with_reducible refine (tiklaw1_first.calls  true _ ?side1 A44.out).mono ?_); (case side1 => exact tabAt HT.out (by repeat (first | (with_reducible first | exact HB.out | apply below_alloc | apply pw_below_drewN | apply below_drew1) | exact HB.out))); rintro e w67 ⟨rfl, hb⟩; refine ⟨_, rfl, ?_⟩; have n0_ := Aside0.mk (below_step (by repeat (first | (with_reducible first | exact HB.out | apply below_alloc | apply pw_below_drewN | apply below_drew1) | exact HB.out)) hb); clear HB; have HB := n0_; clear n0_; (try clear hb); (try clear hb2); (try clear hk); (try clear hi)) | (go_at_call 19; (with_reducible refine (rate_Order.calls a0 t109 t111 _ A46.out).mono ?_); rintro e w68 ⟨rfl, hb⟩; have n0_ := Aside0.mk (below_step (by repeat (first | (with_reducible first | exact HB.out | apply below_alloc | apply pw_below_drewN | apply below_drew1) | exact HB.out)) hb); clear HB; have HB := n0_; clear n0_; (try clear hb); (try clear hb2); (try clear hk); (try clear hi)) | (go_at_call 13; (with_reducible refine (rate_From.calls 18442240474082181125 t112 _ A48.out).mono ?_); rintro e w69 ⟨rfl, hb⟩; have n0_ := Aside0.mk (below_step (by repeat (first | (with_reducible first | exact HB.out | apply below_alloc | apply pw_below_drewN | apply below_drew1) | exact HB.out)) hb); clear HB; have HB := n0_; clear n0_; (try clear hb); (try clear hb2); (try clear hk); (try clear hi)) | (go_at_call 19; (with_reducible refine (rate_Order.calls t109 t112 t113 _ A49.out).mono ?_); rintro e w70 ⟨rfl, hb⟩; have n0_ := Aside0.mk (below_step (by repeat (first | (with_reducible first | exact HB.out | apply below_alloc | apply pw_below_drewN | apply below_drew1) | exact HB.out)) hb); clear HB; have HB := n0_; clear n0_; (try clear hb); (try clear hb2); (try clear hk); (try clear hi)))
                        go_ret
                        exact ⟨by first | rfl | (simp [errW_none, errW_some] <;> rfl) | (simp [*, errW_none, errW_some] <;> rfl), by repeat (first | (with_reducible first | exact HB.out | apply below_alloc | apply pw_below_drewN | apply below_drew1) | exact HB.out)⟩
                      · rw [if_neg c65] at H
                        have c65b0 : (FloatKind.f64.format.order a0 a1 == some Ordering.lt) = false := by simpa using c65
                        (try (have c65b1 : decide (FloatKind.f64.format.order a0 a1 = some Ordering.lt) = false := by simpa using c65))
                        (try (have c65b2 : (FloatKind.f64.format.order a0 a1 == some Ordering.lt) = false := by simpa using c65))
                        (try (have c65b3 : ¬ (FloatKind.f64.format.order a0 a1 = some Ordering.lt) := by simpa using c65))
                        clear c65
                        obtain rfl := Option.some.inj H
                        go_wp2_with (first | (first | simp only [neg_run] | simp only [sub_runT (by assumption)]) | ((with_reducible refine gate_callee (f := 13) rfl ?_); refine goesL_ (some 56) rfl rfl Tryd.func13 (by kernel_rfl) rfl #[.int .u64 9218868437227405313] rfl (by (try simp only [List.map_toArray, List.map_cons, List.map_nil]); first | done | rfl | (simp only [List.length_drop, List.length_take]; rfl)) ?_; (with_reducible refine (rate_From.calls 9218868437227405313 t109 _ A43.out).mono ?_); rintro e w71 ⟨rfl, hb⟩; refine ⟨_, rfl, ?_⟩; have n0_ := Aside0.mk (below_step (by repeat (first | (with_reducible first | exact HB.out | apply below_alloc | apply pw_below_drewN | apply below_drew1) | exact HB.out)) hb); clear HB; have HB := n0_; clear n0_; (try clear hb); (try clear hb2); (try clear hk); (try clear hi)) | ((with_reducible refine gate_callee (f := 11) rfl ?_); refine goesL_ (some 57) rfl rfl Tryd.func11 (by kernel_rfl) rfl #[] rfl (by (try simp only [List.map_toArray, List.map_cons, List.map_nil]); first | done | rfl | (simp only [List.length_drop, List.length_take]; rfl)) ?_; (with_reducible refine (tiklaw1_first.calls  true _ ?side1 A44.out).mono ?_); (case side1 => exact tabAt HT.out (by repeat (first | (with_reducible first | exact HB.out | apply below_alloc | apply pw_below_drewN | apply below_drew1) | exact HB.out))); rintro e w72 ⟨rfl, hb⟩; refine ⟨_, rfl, ?_⟩; have n0_ := Aside0.mk (below_step (by repeat (first | (with_reducible first | exact HB.out | apply below_alloc | apply pw_below_drewN | apply below_drew1) | exact HB.out)) hb); clear HB; have HB := n0_; clear n0_; (try clear hb); (try clear hb2); (try clear hk); (try clear hi)) | (go_at_call 19; (with_reducible refine (rate_Order.calls a0 t109 t111 _ A46.out).mono ?_); rintro e w73 ⟨rfl, hb⟩; have n0_ := Aside0.mk (below_step (by repeat (first | (with_reducible first | exact HB.out | apply below_alloc | apply pw_below_drewN | apply below_drew1) | exact HB.out)) hb); clear HB; have HB := n0_; clear n0_; (try clear hb); (try clear hb2); (try clear hk); (try clear hi)) | (go_at_call 13; (with_reducible refine (rate_From.calls 18442240474082181125 t112 _ A48.out).mono ?_); rintro e w74 ⟨rfl, hb⟩; have n0_ := Aside0.mk (below_step (by repeat (first | (with_reducible first | exact HB.out | apply below_alloc | apply pw_below_drewN | apply below_drew1) | exact HB.out)) hb); clear HB; have HB := n0_; clear n0_; (try clear hb); (try clear hb2); (try clear hk); (try clear hi)) | (go_at_call 19; (with_reducible refine (rate_Order.calls t109 t112 t113 _ A49.out).mono ?_); rintro e w75 ⟨rfl, hb⟩; have n0_ := Aside0.mk (below_step (by repeat (first | (with_reducible first | exact HB.out | apply below_alloc | apply pw_below_drewN | apply below_drew1) | exact HB.out)) hb); clear HB; have HB := n0_; clear n0_; (try clear hb); (try clear hb2); (try clear hk); (try clear hi)))
                        go_ret
                        exact ⟨by first | rfl | (simp [errW_none, errW_some] <;> rfl) | (simp [*, errW_none, errW_some] <;> rfl), by repeat (first | (with_reducible first | exact HB.out | apply below_alloc | apply pw_below_drewN | apply below_drew1) | exact HB.out)⟩
                    · rw [if_neg c64] at H
                      have c64b0 : (FloatKind.f64.format.order a1 0 == some Ordering.eq) = false := by simpa using c64
                      (try (have c64b1 : decide (FloatKind.f64.format.order a1 0 = some Ordering.eq) = false := by simpa using c64))
                      (try (have c64b2 : (FloatKind.f64.format.order a1 0 == some Ordering.eq) = false := by simpa using c64))
                      (try (have c64b3 : ¬ (FloatKind.f64.format.order a1 0 = some Ordering.eq) := by simpa using c64))
                      clear c64
                      exact absurd ((Option.some.inj H).trans hr_.out) (by simp)
                  · rw [if_neg c63] at H
                    have c63b0 : (t102 == 0) = false := beq_eq_false_iff_ne.mpr c63
                    have c63b1 : (t102 != 0) = true := bne_iff_ne.mpr c63
                    by_cases c76 : ((FloatKind.f64.format.order a0 a1 == some Ordering.lt) = true)
                    · rw [if_pos c76] at H
                      have c76b0 : (FloatKind.f64.format.order a0 a1 == some Ordering.lt) = true := c76
                      (try (have c76b1 : decide (FloatKind.f64.format.order a0 a1 = some Ordering.lt) = true := by simpa using c76))
                      (try (have c76b2 : (FloatKind.f64.format.order a0 a1 == some Ordering.lt) = true := by simpa using c76))
                      clear c76
                      obtain rfl := Option.some.inj H
                      go_wp2_with (first | (first | simp only [neg_run] | simp only [sub_runT (by assumption)]) | ((with_reducible refine gate_callee (f := 13) rfl ?_); refine goesL_ (some 56) rfl rfl Tryd.func13 (by kernel_rfl) rfl #[.int .u64 9218868437227405313] rfl (by (try simp only [List.map_toArray, List.map_cons, List.map_nil]); first | done | rfl | (simp only [List.length_drop, List.length_take]; rfl)) ?_; (with_reducible refine (rate_From.calls 9218868437227405313 t109 _ A43.out).mono ?_); rintro e w77 ⟨rfl, hb⟩; refine ⟨_, rfl, ?_⟩; have n0_ := Aside0.mk (below_step (by repeat (first | (with_reducible first | exact HB.out | apply below_alloc | apply pw_below_drewN | apply below_drew1) | exact HB.out)) hb); clear HB; have HB := n0_; clear n0_; (try clear hb); (try clear hb2); (try clear hk); (try clear hi)) | ((with_reducible refine gate_callee (f := 11) rfl ?_); refine goesL_ (some 57) rfl rfl Tryd.func11 (by kernel_rfl) rfl #[] rfl (by (try simp only [List.map_toArray, List.map_cons, List.map_nil]); first | done | rfl | (simp only [List.length_drop, List.length_take]; rfl)) ?_; (with_reducible refine (tiklaw1_first.calls  true _ ?side1 A44.out).mono ?_); (case side1 => exact tabAt HT.out (by repeat (first | (with_reducible first | exact HB.out | apply below_alloc | apply pw_below_drewN | apply below_drew1) | exact HB.out))); rintro e w78 ⟨rfl, hb⟩; refine ⟨_, rfl, ?_⟩; have n0_ := Aside0.mk (below_step (by repeat (first | (with_reducible first | exact HB.out | apply below_alloc | apply pw_below_drewN | apply below_drew1) | exact HB.out)) hb); clear HB; have HB := n0_; clear n0_; (try clear hb); (try clear hb2); (try clear hk); (try clear hi)) | (go_at_call 19; (with_reducible refine (rate_Order.calls a0 t109 t111 _ A46.out).mono ?_); rintro e w79 ⟨rfl, hb⟩; have n0_ := Aside0.mk (below_step (by repeat (first | (with_reducible first | exact HB.out | apply below_alloc | apply pw_below_drewN | apply below_drew1) | exact HB.out)) hb); clear HB; have HB := n0_; clear n0_; (try clear hb); (try clear hb2); (try clear hk); (try clear hi)) | (go_at_call 13; (with_reducible refine (rate_From.calls 18442240474082181125 t112 _ A48.out).mono ?_); rintro e w80 ⟨rfl, hb⟩; have n0_ := Aside0.mk (below_step (by repeat (first | (with_reducible first | exact HB.out | apply below_alloc | apply pw_below_drewN | apply below_drew1) | exact HB.out)) hb); clear HB; have HB := n0_; clear n0_; (try clear hb); (try clear hb2); (try clear hk); (try clear hi)) | (go_at_call 19; (with_reducible refine (rate_Order.calls t109 t112 t113 _ A49.out).mono ?_); rintro e w81 ⟨rfl, hb⟩; have n0_ := Aside0.mk (below_step (by repeat (first | (with_reducible first | exact HB.out | apply below_alloc | apply pw_below_drewN | apply below_drew1) | exact HB.out)) hb); clear HB; have HB := n0_; clear n0_; (try clear hb); (try clear hb2); (try clear hk); (try clear hi)))
                      go_ret
                      exact ⟨by first | rfl | (simp [errW_none, errW_some] <;> rfl) | (simp [*, errW_none, errW_some] <;> rfl), by repeat (first | (with_reducible first | exact HB.out | apply below_alloc | apply pw_below_drewN | apply below_drew1) | exact HB.out)⟩
                    · rw [if_neg c76] at H
                      have c76b0 : (FloatKind.f64.format.order a0 a1 == some Ordering.lt) = false := by simpa using c76
                      (try (have c76b1 : decide (FloatKind.f64.format.order a0 a1 = some Ordering.lt) = false := by simpa using c76))
                      (try (have c76b2 : (FloatKind.f64.format.order a0 a1 == some Ordering.lt) = false := by simpa using c76))
                      (try (have c76b3 : ¬ (FloatKind.f64.format.order a0 a1 = some Ordering.lt) := by simpa using c76))
                      clear c76
                      obtain rfl := Option.some.inj H
                      go_wp2_with (first | (first | simp only [neg_run] | simp only [sub_runT (by assumption)]) | ((with_reducible refine gate_callee (f := 13) rfl ?_); refine goesL_ (some 56) rfl rfl Tryd.func13 (by kernel_rfl) rfl #[.int .u64 9218868437227405313] rfl (by (try simp only [List.map_toArray, List.map_cons, List.map_nil]); first | done | rfl | (simp only [List.length_drop, List.length_take]; rfl)) ?_; (with_reducible refine (rate_From.calls 9218868437227405313 t109 _ A43.out).mono ?_); rintro e w82 ⟨rfl, hb⟩; refine ⟨_, rfl, ?_⟩; have n0_ := Aside0.mk (below_step (by repeat (first | (with_reducible first | exact HB.out | apply below_alloc | apply pw_below_drewN | apply below_drew1) | exact HB.out)) hb); clear HB; have HB := n0_; clear n0_; (try clear hb); (try clear hb2); (try clear hk); (try clear hi)) | ((with_reducible refine gate_callee (f := 11) rfl ?_); refine goesL_ (some 57) rfl rfl Tryd.func11 (by kernel_rfl) rfl #[] rfl (by (try simp only [List.map_toArray, List.map_cons, List.map_nil]); first | done | rfl | (simp only [List.length_drop, List.length_take]; rfl)) ?_; (with_reducible refine (tiklaw1_first.calls  true _ ?side1 A44.out).mono ?_); (case side1 => exact tabAt HT.out (by repeat (first | (with_reducible first | exact HB.out | apply below_alloc | apply pw_below_drewN | apply below_drew1) | exact HB.out))); rintro e w83 ⟨rfl, hb⟩; refine ⟨_, rfl, ?_⟩; have n0_ := Aside0.mk (below_step (by repeat (first | (with_reducible first | exact HB.out | apply below_alloc | apply pw_below_drewN | apply below_drew1) | exact HB.out)) hb); clear HB; have HB := n0_; clear n0_; (try clear hb); (try clear hb2); (try clear hk); (try clear hi)) | (go_at_call 19; (with_reducible refine (rate_Order.calls a0 t109 t111 _ A46.out).mono ?_); rintro e w84 ⟨rfl, hb⟩; have n0_ := Aside0.mk (below_step (by repeat (first | (with_reducible first | exact HB.out | apply below_alloc | apply pw_below_drewN | apply below_drew1) | exact HB.out)) hb); clear HB; have HB := n0_; clear n0_; (try clear hb); (try clear hb2); (try clear hk); (try clear hi)) | (go_at_call 13; (with_reducible refine (rate_From.calls 18442240474082181125 t112 _ A48.out).mono ?_); rintro e w85 ⟨rfl, hb⟩; have n0_ := Aside0.mk (below_step (by repeat (first | (with_reducible first | exact HB.out | apply below_alloc | apply pw_below_drewN | apply below_drew1) | exact HB.out)) hb); clear HB; have HB := n0_; clear n0_; (try clear hb); (try clear hb2); (try clear hk); (try clear hi)) | (go_at_call 19; (with_reducible refine (rate_Order.calls t109 t112 t113 _ A49.out).mono ?_); rintro e w86 ⟨rfl, hb⟩; have n0_ := Aside0.mk (below_step (by repeat (first | (with_reducible first | exact HB.out | apply below_alloc | apply pw_below_drewN | apply below_drew1) | exact HB.out)) hb); clear HB; have HB := n0_; clear n0_; (try clear hb); (try clear hb2); (try clear hk); (try clear hi)))
                      go_ret
                      exact ⟨by first | rfl | (simp [errW_none, errW_some] <;> rfl) | (simp [*, errW_none, errW_some] <;> rfl), by repeat (first | (with_reducible first | exact HB.out | apply below_alloc | apply pw_below_drewN | apply below_drew1) | exact HB.out)⟩
              · rw [if_neg c50] at H
                have c50b0 : (t113 == 0) = false := beq_eq_false_iff_ne.mpr c50
                have c50b1 : (t113 != 0) = true := bne_iff_ne.mpr c50
                exact absurd ((Option.some.inj H).trans hr_.out) (by simp)
            · rw [if_neg c47] at H
              have c47b0 : decide (t111 ≤ 0) = false := decide_eq_false c47
              clear c47
              exact absurd ((Option.some.inj H).trans hr_.out) (by simp)
          · replace c45 := Bool.eq_false_iff.mpr c45
            subst c45
            have H1 : (some false) = some r := by rw [if_neg (show ¬ (false = true) by decide)] at H; exact H
            clear H
            have H := H1
            clear H1
            exact absurd ((Option.some.inj H).trans hr_.out) (by simp)
  · replace c5 := Bool.eq_false_iff.mpr c5
    subst c5
    have H1 : (some false) = some r := by rw [if_neg (show ¬ (false = true) by decide)] at H; exact H
    clear H
    have H := H1
    clear H1
    exact absurd ((Option.some.inj H).trans hr_.out) (by simp)

/-! ### tiklaw1_RateTicks: function 10 -/
def tiklaw1_RateTicks.j0 : Nat → Nat → Nat → Bool → Option (Bool)
  | 0, _, _, _ => none
  | k + 1, x1, x2, x38 => if x38 = true then (some false) else ((rate_Ticks.f x1).bind fun bt119 => ((rate_Ticks.f x2).bind fun bt121 => (if ((bt119.2 == 10) != (FloatKind.f64.format.order x1 x1 != some Ordering.eq)) = true then (some false) else (if bt119.2 = 0 then (if (FloatKind.f64.format.order x1 x1 == some Ordering.eq) = true then ((rate_Bits.f x1).bind fun t123 => (if ((bt119.2 == 11) != ((t123 / 9223372036854775808) == 1)) = true then (some false) else ((tiklaw1_first.f).bind fun t124 => (if t124 = true then (if bt121.2 = 0 then (if ((FloatKind.f64.format.order x1 x2 == some Ordering.lt || FloatKind.f64.format.order x1 x2 == some Ordering.eq) = true) then (some (decide (bt119.1 ≤ bt121.1))) else (some true)) else (some true)) else (some false))))) else (if ((bt119.2 == 11) != false) = true then (some false) else ((tiklaw1_first.f).bind fun t125 => (if t125 = true then (if bt121.2 = 0 then (if ((FloatKind.f64.format.order x1 x2 == some Ordering.lt || FloatKind.f64.format.order x1 x2 == some Ordering.eq) = true) then (some (decide (bt119.1 ≤ bt121.1))) else (some true)) else (some true)) else (some false))))) else (if bt119.1 = 0 then (if (FloatKind.f64.format.order x1 x1 == some Ordering.eq) = true then ((rate_Bits.f x1).bind fun t126 => (if ((bt119.2 == 11) != ((t126 / 9223372036854775808) == 1)) = true then (some false) else ((tiklaw1_first.f).bind fun t127 => (if t127 = true then (some true) else (some false))))) else (if ((bt119.2 == 11) != false) = true then (some false) else ((tiklaw1_first.f).bind fun t128 => (if t128 = true then (some true) else (some false))))) else (some false))))))
def tiklaw1_RateTicks.f (k : Nat) (a0 : Int) (a1 : Nat) (a2 : Nat) : Option (Bool) := (tiklaw1_first.f).bind fun t114 => (if t114 = true then (if a0 > 1099511627776 then ((tiklaw1_first.f).bind fun t115 => (some t115)) else ((rate_Ticks.f (floatOfInt .f64 a0)).bind fun bt116 => (if bt116.2 = 0 then (if bt116.1 = (IntKind.u64.wrap (1000 * a0)) then ((rate_Seconds.f bt116.1).bind fun t118 => (tiklaw1_RateTicks.j0 k a1 a2 (FloatKind.f64.format.order t118 (floatOfInt .f64 a0) != some Ordering.eq))) else (tiklaw1_RateTicks.j0 k a1 a2 true)) else (tiklaw1_RateTicks.j0 k a1 a2 true)))) else (some false))
theorem tiklaw1_RateTicks.mono_l : ∀ k, (∀ y0 y1 y2, LeO (tiklaw1_RateTicks.j0 k y0 y1 y2) (tiklaw1_RateTicks.j0 (k + 1) y0 y1 y2))
  | 0 => fun _ _ _ r h => by simp [tiklaw1_RateTicks.j0] at h
  | k + 1 => by
    have ih0 := tiklaw1_RateTicks.mono_l k
    · intro y0 y1 y2
      unfold tiklaw1_RateTicks.j0
      repeat' first
      | (with_reducible exact ih0 _ _ _)
      | (with_reducible exact LeO.refl _)
      | (with_reducible exact LeO.none _)
      | (with_reducible refine LeO.ite ?_ ?_)
      | (with_reducible refine LeO.bind ?_ (fun _ => ?_))
      | exact ih0 _ _ _
      | exact LeO.none _
      | refine LeO.ite ?_ ?_
      | refine LeO.bind ?_ (fun _ => ?_)
theorem tiklaw1_RateTicks.mono : ∀ a0 a1 a2 k, LeO (tiklaw1_RateTicks.f k a0 a1 a2) (tiklaw1_RateTicks.f (k + 1) a0 a1 a2) := by
  intro a0 a1 a2 k
  have ih0 := tiklaw1_RateTicks.mono_l k
  unfold tiklaw1_RateTicks.f
  repeat' first
      | (with_reducible exact ih0 _ _ _)
      | (with_reducible exact LeO.refl _)
      | (with_reducible exact LeO.none _)
      | (with_reducible refine LeO.ite ?_ ?_)
      | (with_reducible refine LeO.bind ?_ (fun _ => ?_))
      | exact ih0 _ _ _
      | exact LeO.none _
      | refine LeO.ite ?_ ?_
      | refine LeO.bind ?_ (fun _ => ?_)
set_option maxHeartbeats 8000000 in
set_option maxRecDepth 100000 in
theorem tiklaw1_RateTicks.calls (k : Nat) (a0 : Int) (a1 : Nat) (a2 : Nat) (r : Bool) (w : World) (hT : TabW w) (hr_ : Aside0 (r = true)) (h : tiklaw1_RateTicks.f k a0 a1 a2 = some r) :
    Calls Tryd.prog 10 #[.int .u64 a0, .float .f64 a1, .float .f64 a2] w fun e w' => e = .returned (.bool r) ∧ Below w.heap.size w w' := by
  have HT := Aside0.mk hT
  clear hT
  have HB := Aside0.mk (Below.refl w.heap.size w)
  have H : ((tiklaw1_first.f).bind fun t114 => (if t114 = true then (if a0 > 1099511627776 then ((tiklaw1_first.f).bind fun t115 => (some t115)) else ((rate_Ticks.f (floatOfInt .f64 a0)).bind fun bt116 => (if bt116.2 = 0 then (if bt116.1 = (IntKind.u64.wrap (1000 * a0)) then ((rate_Seconds.f bt116.1).bind fun t118 => (tiklaw1_RateTicks.j0 k a1 a2 (FloatKind.f64.format.order t118 (floatOfInt .f64 a0) != some Ordering.eq))) else (tiklaw1_RateTicks.j0 k a1 a2 true)) else (tiklaw1_RateTicks.j0 k a1 a2 true)))) else (some false))) = some r := h
  clear h
  replace H := Option.bind_eq_some_iff.mp H
  obtain ⟨t114, A40, H⟩ := H
  replace H : (if t114 = true then (if a0 > 1099511627776 then ((tiklaw1_first.f).bind fun t115 => (some t115)) else ((rate_Ticks.f (floatOfInt .f64 a0)).bind fun bt116 => (if bt116.2 = 0 then (if bt116.1 = (IntKind.u64.wrap (1000 * a0)) then ((rate_Seconds.f bt116.1).bind fun t118 => (tiklaw1_RateTicks.j0 k a1 a2 (FloatKind.f64.format.order t118 (floatOfInt .f64 a0) != some Ordering.eq))) else (tiklaw1_RateTicks.j0 k a1 a2 true)) else (tiklaw1_RateTicks.j0 k a1 a2 true)))) else (some false)) = some r := H
  have A4 := Aside0.mk A40
  clear A40
  by_cases c5 : t114 = true
  · subst c5
    have H1 : (if a0 > 1099511627776 then ((tiklaw1_first.f).bind fun t115 => (some t115)) else ((rate_Ticks.f (floatOfInt .f64 a0)).bind fun bt116 => (if bt116.2 = 0 then (if bt116.1 = (IntKind.u64.wrap (1000 * a0)) then ((rate_Seconds.f bt116.1).bind fun t118 => (tiklaw1_RateTicks.j0 k a1 a2 (FloatKind.f64.format.order t118 (floatOfInt .f64 a0) != some Ordering.eq))) else (tiklaw1_RateTicks.j0 k a1 a2 true)) else (tiklaw1_RateTicks.j0 k a1 a2 true)))) = some r := by rw [if_pos rfl] at H; exact H
    clear H
    have H := H1
    clear H1
    by_cases c6 : a0 > 1099511627776
    · rw [if_pos c6] at H
      have c6b0 : decide (1099511627776 < a0) = true := decide_eq_true c6
      clear c6
      replace H := Option.bind_eq_some_iff.mp H
      obtain ⟨t115, A70, H⟩ := H
      replace H : (some t115) = some r := H
      have A7 := Aside0.mk A70
      clear A70
      obtain rfl := Option.some.inj H
      go_enter Tryd.func10, Tryd.ntmps10
      go_wp2_with (first | (first | simp only [neg_run] | simp only [sub_runT (by assumption)]) | ((with_reducible refine gate_callee (f := 11) rfl ?_); refine goesL_ (some 13) rfl rfl Tryd.func11 (by kernel_rfl) rfl #[] rfl (by (try simp only [List.map_toArray, List.map_cons, List.map_nil]); first | done | rfl | (simp only [List.length_drop, List.length_take]; rfl)) ?_; (with_reducible refine (tiklaw1_first.calls  true _ ?side1 A4.out).mono ?_); (case side1 => exact tabAt HT.out (by repeat (first | (with_reducible first | exact HB.out | apply below_alloc | apply pw_below_drewN | apply below_drew1) | exact HB.out))); rintro e w8 ⟨rfl, hb⟩; refine ⟨_, rfl, ?_⟩; have n0_ := Aside0.mk (below_step (by repeat (first | (with_reducible first | exact HB.out | apply below_alloc | apply pw_below_drewN | apply below_drew1) | exact HB.out)) hb); clear HB; have HB := n0_; clear n0_; (try clear hb); (try clear hb2); (try clear hk); (try clear hi)) | ((with_reducible refine gate_callee (f := 11) rfl ?_); refine goesL_ (some 17) rfl rfl Tryd.func11 (by kernel_rfl) rfl #[] rfl (by (try simp only [List.map_toArray, List.map_cons, List.map_nil]); first | done | rfl | (simp only [List.length_drop, List.length_take]; rfl)) ?_; (with_reducible refine (tiklaw1_first.calls  t115 _ ?side1 A7.out).mono ?_); (case side1 => exact tabAt HT.out (by repeat (first | (with_reducible first | exact HB.out | apply below_alloc | apply pw_below_drewN | apply below_drew1) | exact HB.out))); rintro e w9 ⟨rfl, hb⟩; refine ⟨_, rfl, ?_⟩; have n0_ := Aside0.mk (below_step (by repeat (first | (with_reducible first | exact HB.out | apply below_alloc | apply pw_below_drewN | apply below_drew1) | exact HB.out)) hb); clear HB; have HB := n0_; clear n0_; (try clear hb); (try clear hb2); (try clear hk); (try clear hi)))
      go_ret
      exact ⟨by first | rfl | (simp [errW_none, errW_some] <;> rfl) | (simp [*, errW_none, errW_some] <;> rfl), by repeat (first | (with_reducible first | exact HB.out | apply below_alloc | apply pw_below_drewN | apply below_drew1) | exact HB.out)⟩
    · rw [if_neg c6] at H
      have c6b0 : decide (1099511627776 < a0) = false := decide_eq_false c6
      clear c6
      replace H := Option.bind_eq_some_iff.mp H
      obtain ⟨⟨t116, t117⟩, A100, H⟩ := H
      replace H : (if t117 = 0 then (if t116 = (IntKind.u64.wrap (1000 * a0)) then ((rate_Seconds.f t116).bind fun t118 => (tiklaw1_RateTicks.j0 k a1 a2 (FloatKind.f64.format.order t118 (floatOfInt .f64 a0) != some Ordering.eq))) else (tiklaw1_RateTicks.j0 k a1 a2 true)) else (tiklaw1_RateTicks.j0 k a1 a2 true)) = some r := H
      have A10 := Aside0.mk A100
      clear A100
      have HC11 := Aside0.mk H
      clear H
      go_enter Tryd.func10, Tryd.ntmps10
      go_upto_region 6 with (first | (first | simp only [neg_run] | simp only [sub_runT (by assumption)]) | ((with_reducible refine gate_callee (f := 11) rfl ?_); refine goesL_ (some 13) rfl rfl Tryd.func11 (by kernel_rfl) rfl #[] rfl (by (try simp only [List.map_toArray, List.map_cons, List.map_nil]); first | done | rfl | (simp only [List.length_drop, List.length_take]; rfl)) ?_; (with_reducible refine (tiklaw1_first.calls  true _ ?side1 A4.out).mono ?_); (case side1 => exact tabAt HT.out (by repeat (first | (with_reducible first | exact HB.out | apply below_alloc | apply pw_below_drewN | apply below_drew1) | exact HB.out))); rintro e w12 ⟨rfl, hb⟩; refine ⟨_, rfl, ?_⟩; have n0_ := Aside0.mk (below_step (by repeat (first | (with_reducible first | exact HB.out | apply below_alloc | apply pw_below_drewN | apply below_drew1) | exact HB.out)) hb); clear HB; have HB := n0_; clear n0_; (try clear hb); (try clear hb2); (try clear hk); (try clear hi)) | ((with_reducible refine gate_callee (f := 27) rfl ?_); refine goesL_ (some 21) rfl rfl Tryd.func27 (by kernel_rfl) rfl #[.float .f64 (floatOfInt .f64 a0)] rfl (by (try simp only [List.map_toArray, List.map_cons, List.map_nil]); first | done | rfl | (simp only [List.length_drop, List.length_take]; rfl)) ?_; (with_reducible refine (rate_Ticks.calls (floatOfInt .f64 a0) t116 t117 _ A10.out).mono ?_); rintro e w13 ⟨rfl, hb⟩; refine ⟨_, rfl, ?_⟩; have n0_ := Aside0.mk (below_step (by repeat (first | (with_reducible first | exact HB.out | apply below_alloc | apply pw_below_drewN | apply below_drew1) | exact HB.out)) hb); clear HB; have HB := n0_; clear n0_; (try clear hb); (try clear hb2); (try clear hk); (try clear hi)))
      (try simp only [Act.put, List.setIfInBounds_toArray, List.set_cons_zero, List.set_cons_succ])
      go_cut [38] (fun v38 wc => ∃ (kq : Nat) (x38_10 : Bool), v38 = .bool x38_10 ∧ Aside0 (tiklaw1_RateTicks.j0 kq a1 a2 x38_10 = some r) ∧ Aside0 (kq ≤ k) ∧ Aside0 (Below w.heap.size w wc))
      case first =>
        have H := HC11.out
        clear HC11
        by_cases c14 : t117 = 0
        · rw [if_pos c14] at H
          have c14b0 : (t117 == 0) = true := beq_iff_eq.mpr c14
          have c14b1 : (t117 != 0) = false := bne_eq_false_iff_eq.mpr c14
          clear c14
          (first | rw [c14b0] | (simp only [i64_w, i32_w]; rw [c14b0]) | skip)
          by_cases c15 : t116 = (IntKind.u64.wrap (1000 * a0))
          · rw [if_pos c15] at H
            have c15b0 : (t116 == (IntKind.u64.wrap (1000 * a0))) = true := beq_iff_eq.mpr c15
            have c15b1 : (t116 != (IntKind.u64.wrap (1000 * a0))) = false := bne_eq_false_iff_eq.mpr c15
            clear c15
            replace H := Option.bind_eq_some_iff.mp H
            obtain ⟨t118, A160, H⟩ := H
            replace H : (tiklaw1_RateTicks.j0 k a1 a2 (FloatKind.f64.format.order t118 (floatOfInt .f64 a0) != some Ordering.eq)) = some r := H
            have A16 := Aside0.mk A160
            clear A160
            have H' := Aside0.mk H
            clear H
            go_wp2_with (first | (first | simp only [neg_run] | simp only [sub_runT (by assumption)]) | (go_at_call 29; (with_reducible refine (rate_Seconds.calls t116 t118 _ A16.out).mono ?_); rintro e w17 ⟨rfl, hb⟩; have n0_ := Aside0.mk (below_step (by repeat (first | (with_reducible first | exact HB.out | apply below_alloc | apply pw_below_drewN | apply below_drew1) | exact HB.out)) hb); clear HB; have HB := n0_; clear n0_; (try clear hb); (try clear hb2); (try clear hk); (try clear hi)))
            go_meet
            case rel => exact ⟨_, ((FloatKind.f64.format.order t118 (floatOfInt .f64 a0) != some Ordering.eq)), (by first | rfl | (simp; done) | (simp [*]; done)), H', ⟨by first | omega | exact Nat.le_refl _⟩, ⟨by repeat (first | (with_reducible first | exact HB.out | apply below_alloc | apply pw_below_drewN | apply below_drew1) | exact HB.out)⟩⟩
          · rw [if_neg c15] at H
            have c15b0 : (t116 == (IntKind.u64.wrap (1000 * a0))) = false := beq_eq_false_iff_ne.mpr c15
            have c15b1 : (t116 != (IntKind.u64.wrap (1000 * a0))) = true := bne_iff_ne.mpr c15
            have H' := Aside0.mk H
            clear H
            go_wp2_with ((first | simp only [neg_run] | simp only [sub_runT (by assumption)]))
            go_meet
            case rel => exact ⟨_, (true), (by first | rfl | (simp; done) | (simp [*]; done)), H', ⟨by first | omega | exact Nat.le_refl _⟩, ⟨by repeat (first | (with_reducible first | exact HB.out | apply below_alloc | apply pw_below_drewN | apply below_drew1) | exact HB.out)⟩⟩
        · rw [if_neg c14] at H
          have c14b0 : (t117 == 0) = false := beq_eq_false_iff_ne.mpr c14
          have c14b1 : (t117 != 0) = true := bne_iff_ne.mpr c14
          (first | rw [c14b0] | (simp only [i64_w, i32_w]; rw [c14b0]) | skip)
          have H' := Aside0.mk H
          clear H
          go_wp2_with ((first | simp only [neg_run] | simp only [sub_runT (by assumption)]))
          go_meet
          case rel => exact ⟨_, (true), (by first | rfl | (simp; done) | (simp [*]; done)), H', ⟨by first | omega | exact Nat.le_refl _⟩, ⟨by repeat (first | (with_reducible first | exact HB.out | apply below_alloc | apply pw_below_drewN | apply below_drew1) | exact HB.out)⟩⟩
      case rest =>
        clear HC11
        try clear c1
        try clear c2
        try clear p2
        try clear c5
        try clear c6
        try clear c6b0
        try clear c10
        try clear c11
        try clear c14
        try clear c14b0
        try clear c14b1
        try clear c15
        try clear c15b0
        try clear c15b1
        obtain ⟨kq, x38_10, rfl, HA, HJ10, HB⟩ := hcut
        cases kq with
        | zero => exact absurd HA.out (by simp [tiklaw1_RateTicks.j0])
        | succ kj10 =>
          have H := HA.out
          clear HA
          simp only [tiklaw1_RateTicks.j0] at H
          by_cases c18 : x38_10 = true
          · subst c18
            have H1 : (some false) = some r := by rw [if_pos rfl] at H; exact H
            clear H
            have H := H1
            clear H1
            exact absurd ((Option.some.inj H).trans hr_.out) (by simp)
          · replace c18 := Bool.eq_false_iff.mpr c18
            subst c18
            have H1 : ((rate_Ticks.f a1).bind fun bt119 => ((rate_Ticks.f a2).bind fun bt121 => (if ((bt119.2 == 10) != (FloatKind.f64.format.order a1 a1 != some Ordering.eq)) = true then (some false) else (if bt119.2 = 0 then (if (FloatKind.f64.format.order a1 a1 == some Ordering.eq) = true then ((rate_Bits.f a1).bind fun t123 => (if ((bt119.2 == 11) != ((t123 / 9223372036854775808) == 1)) = true then (some false) else ((tiklaw1_first.f).bind fun t124 => (if t124 = true then (if bt121.2 = 0 then (if ((FloatKind.f64.format.order a1 a2 == some Ordering.lt || FloatKind.f64.format.order a1 a2 == some Ordering.eq) = true) then (some (decide (bt119.1 ≤ bt121.1))) else (some true)) else (some true)) else (some false))))) else (if ((bt119.2 == 11) != false) = true then (some false) else ((tiklaw1_first.f).bind fun t125 => (if t125 = true then (if bt121.2 = 0 then (if ((FloatKind.f64.format.order a1 a2 == some Ordering.lt || FloatKind.f64.format.order a1 a2 == some Ordering.eq) = true) then (some (decide (bt119.1 ≤ bt121.1))) else (some true)) else (some true)) else (some false))))) else (if bt119.1 = 0 then (if (FloatKind.f64.format.order a1 a1 == some Ordering.eq) = true then ((rate_Bits.f a1).bind fun t126 => (if ((bt119.2 == 11) != ((t126 / 9223372036854775808) == 1)) = true then (some false) else ((tiklaw1_first.f).bind fun t127 => (if t127 = true then (some true) else (some false))))) else (if ((bt119.2 == 11) != false) = true then (some false) else ((tiklaw1_first.f).bind fun t128 => (if t128 = true then (some true) else (some false))))) else (some false)))))) = some r := by rw [if_neg (show ¬ (false = true) by decide)] at H; exact H
            clear H
            have H := H1
            clear H1
            replace H := Option.bind_eq_some_iff.mp H
            obtain ⟨⟨t119, t120⟩, A190, H⟩ := H
            replace H : ((rate_Ticks.f a2).bind fun bt121 => (if ((t120 == 10) != (FloatKind.f64.format.order a1 a1 != some Ordering.eq)) = true then (some false) else (if t120 = 0 then (if (FloatKind.f64.format.order a1 a1 == some Ordering.eq) = true then ((rate_Bits.f a1).bind fun t123 => (if ((t120 == 11) != ((t123 / 9223372036854775808) == 1)) = true then (some false) else ((tiklaw1_first.f).bind fun t124 => (if t124 = true then (if bt121.2 = 0 then (if ((FloatKind.f64.format.order a1 a2 == some Ordering.lt || FloatKind.f64.format.order a1 a2 == some Ordering.eq) = true) then (some (decide (t119 ≤ bt121.1))) else (some true)) else (some true)) else (some false))))) else (if ((t120 == 11) != false) = true then (some false) else ((tiklaw1_first.f).bind fun t125 => (if t125 = true then (if bt121.2 = 0 then (if ((FloatKind.f64.format.order a1 a2 == some Ordering.lt || FloatKind.f64.format.order a1 a2 == some Ordering.eq) = true) then (some (decide (t119 ≤ bt121.1))) else (some true)) else (some true)) else (some false))))) else (if t119 = 0 then (if (FloatKind.f64.format.order a1 a1 == some Ordering.eq) = true then ((rate_Bits.f a1).bind fun t126 => (if ((t120 == 11) != ((t126 / 9223372036854775808) == 1)) = true then (some false) else ((tiklaw1_first.f).bind fun t127 => (if t127 = true then (some true) else (some false))))) else (if ((t120 == 11) != false) = true then (some false) else ((tiklaw1_first.f).bind fun t128 => (if t128 = true then (some true) else (some false))))) else (some false))))) = some r := H
            have A19 := Aside0.mk A190
            clear A190
            replace H := Option.bind_eq_some_iff.mp H
            obtain ⟨⟨t121, t122⟩, A200, H⟩ := H
            replace H : (if ((t120 == 10) != (FloatKind.f64.format.order a1 a1 != some Ordering.eq)) = true then (some false) else (if t120 = 0 then (if (FloatKind.f64.format.order a1 a1 == some Ordering.eq) = true then ((rate_Bits.f a1).bind fun t123 => (if ((t120 == 11) != ((t123 / 9223372036854775808) == 1)) = true then (some false) else ((tiklaw1_first.f).bind fun t124 => (if t124 = true then (if t122 = 0 then (if ((FloatKind.f64.format.order a1 a2 == some Ordering.lt || FloatKind.f64.format.order a1 a2 == some Ordering.eq) = true) then (some (decide (t119 ≤ t121))) else (some true)) else (some true)) else (some false))))) else (if ((t120 == 11) != false) = true then (some false) else ((tiklaw1_first.f).bind fun t125 => (if t125 = true then (if t122 = 0 then (if ((FloatKind.f64.format.order a1 a2 == some Ordering.lt || FloatKind.f64.format.order a1 a2 == some Ordering.eq) = true) then (some (decide (t119 ≤ t121))) else (some true)) else (some true)) else (some false))))) else (if t119 = 0 then (if (FloatKind.f64.format.order a1 a1 == some Ordering.eq) = true then ((rate_Bits.f a1).bind fun t126 => (if ((t120 == 11) != ((t126 / 9223372036854775808) == 1)) = true then (some false) else ((tiklaw1_first.f).bind fun t127 => (if t127 = true then (some true) else (some false))))) else (if ((t120 == 11) != false) = true then (some false) else ((tiklaw1_first.f).bind fun t128 => (if t128 = true then (some true) else (some false))))) else (some false)))) = some r := H
            have A20 := Aside0.mk A200
            clear A200
            by_cases c21 : ((t120 == 10) != (FloatKind.f64.format.order a1 a1 != some Ordering.eq)) = true
            · rw [if_pos c21] at H
              have c21b0 : ((t120 == 10) != (FloatKind.f64.format.order a1 a1 != some Ordering.eq)) = true := c21
              (try (have c21b1 : decide ((t120 == 10) = (FloatKind.f64.format.order a1 a1 != some Ordering.eq)) = false := by simpa using c21))
              (try (have c21b2 : ((t120 == 10) == (FloatKind.f64.format.order a1 a1 != some Ordering.eq)) = false := by simpa using c21))
              (try (have c21b3 : ¬ ((t120 == 10) = (FloatKind.f64.format.order a1 a1 != some Ordering.eq)) := by simpa using c21))
              clear c21
              exact absurd ((Option.some.inj H).trans hr_.out) (by simp)
            · rw [if_neg c21] at H
              have c21b0 : ((t120 == 10) != (FloatKind.f64.format.order a1 a1 != some Ordering.eq)) = false := by simpa using c21
              (try (have c21b1 : decide ((t120 == 10) = (FloatKind.f64.format.order a1 a1 != some Ordering.eq)) = true := by simpa using c21))
              (try (have c21b2 : ((t120 == 10) == (FloatKind.f64.format.order a1 a1 != some Ordering.eq)) = true := by simpa using c21))
              clear c21
              by_cases c22 : t120 = 0
              · rw [if_pos c22] at H
                have c22b0 : (t120 == 0) = true := beq_iff_eq.mpr c22
                have c22b1 : (t120 != 0) = false := bne_eq_false_iff_eq.mpr c22
                clear c22
                by_cases c23 : (FloatKind.f64.format.order a1 a1 == some Ordering.eq) = true
                · rw [if_pos c23] at H
                  have c23b0 : (FloatKind.f64.format.order a1 a1 == some Ordering.eq) = true := c23
                  (try (have c23b1 : decide (FloatKind.f64.format.order a1 a1 = some Ordering.eq) = true := by simpa using c23))
                  (try (have c23b2 : (FloatKind.f64.format.order a1 a1 == some Ordering.eq) = true := by simpa using c23))
                  clear c23
                  replace H := Option.bind_eq_some_iff.mp H
                  obtain ⟨t123, A240, H⟩ := H
                  replace H : (if ((t120 == 11) != ((t123 / 9223372036854775808) == 1)) = true then (some false) else ((tiklaw1_first.f).bind fun t124 => (if t124 = true then (if t122 = 0 then (if ((FloatKind.f64.format.order a1 a2 == some Ordering.lt || FloatKind.f64.format.order a1 a2 == some Ordering.eq) = true) then (some (decide (t119 ≤ t121))) else (some true)) else (some true)) else (some false)))) = some r := H
                  have A24 := Aside0.mk A240
                  clear A240
                  by_cases c25 : ((t120 == 11) != ((t123 / 9223372036854775808) == 1)) = true
                  · rw [if_pos c25] at H
                    have c25b0 : ((t120 == 11) != ((t123 / 9223372036854775808) == 1)) = true := c25
                    (try (have c25b1 : decide ((t120 == 11) = ((t123 / 9223372036854775808) == 1)) = false := by simpa using c25))
                    (try (have c25b2 : ((t120 == 11) == ((t123 / 9223372036854775808) == 1)) = false := by simpa using c25))
                    (try (have c25b3 : ¬ ((t120 == 11) = ((t123 / 9223372036854775808) == 1)) := by simpa using c25))
                    clear c25
                    exact absurd ((Option.some.inj H).trans hr_.out) (by simp)
                  · rw [if_neg c25] at H
                    have c25b0 : ((t120 == 11) != ((t123 / 9223372036854775808) == 1)) = false := by simpa using c25
                    (try (have c25b1 : decide ((t120 == 11) = ((t123 / 9223372036854775808) == 1)) = true := by simpa using c25))
                    (try (have c25b2 : ((t120 == 11) == ((t123 / 9223372036854775808) == 1)) = true := by simpa using c25))
                    clear c25
                    replace H := Option.bind_eq_some_iff.mp H
                    obtain ⟨t124, A260, H⟩ := H
                    replace H : (if t124 = true then (if t122 = 0 then (if ((FloatKind.f64.format.order a1 a2 == some Ordering.lt || FloatKind.f64.format.order a1 a2 == some Ordering.eq) = true) then (some (decide (t119 ≤ t121))) else (some true)) else (some true)) else (some false)) = some r := H
                    have A26 := Aside0.mk A260
                    clear A260
                    by_cases c27 : t124 = true
                    · subst c27
                      have H1 : (if t122 = 0 then (if ((FloatKind.f64.format.order a1 a2 == some Ordering.lt || FloatKind.f64.format.order a1 a2 == some Ordering.eq) = true) then (some (decide (t119 ≤ t121))) else (some true)) else (some true)) = some r := by rw [if_pos rfl] at H; exact H
                      clear H
                      have H := H1
                      clear H1
                      by_cases c28 : t122 = 0
                      · rw [if_pos c28] at H
                        have c28b0 : (t122 == 0) = true := beq_iff_eq.mpr c28
                        have c28b1 : (t122 != 0) = false := bne_eq_false_iff_eq.mpr c28
                        clear c28
                        by_cases c29 : ((FloatKind.f64.format.order a1 a2 == some Ordering.lt || FloatKind.f64.format.order a1 a2 == some Ordering.eq) = true)
                        · rw [if_pos c29] at H
                          have c29b0 : (FloatKind.f64.format.order a1 a2 == some Ordering.lt || FloatKind.f64.format.order a1 a2 == some Ordering.eq) = true := c29
                          (try (have c29b1 : decide (FloatKind.f64.format.order a1 a2 = some Ordering.lt || FloatKind.f64.format.order a1 a2 == some Ordering.eq) = true := by simpa using c29))
                          (try (have c29b2 : (FloatKind.f64.format.order a1 a2 == some Ordering.lt || FloatKind.f64.format.order a1 a2 == some Ordering.eq) = true := by simpa using c29))
                          clear c29
                          obtain rfl := Option.some.inj H
                          go_wp2_with (first | (first | simp only [neg_run] | simp only [sub_runT (by assumption)]) | ((with_reducible refine gate_callee (f := 27) rfl ?_); refine goesL_ (some 41) rfl rfl Tryd.func27 (by kernel_rfl) rfl #[.float .f64 a1] rfl (by (try simp only [List.map_toArray, List.map_cons, List.map_nil]); first | done | rfl | (simp only [List.length_drop, List.length_take]; rfl)) ?_; (with_reducible refine (rate_Ticks.calls a1 t119 t120 _ A19.out).mono ?_); rintro e w30 ⟨rfl, hb⟩; refine ⟨_, rfl, ?_⟩; have n0_ := Aside0.mk (below_step (by repeat (first | (with_reducible first | exact HB.out | apply below_alloc | apply pw_below_drewN | apply below_drew1) | exact HB.out)) hb); clear HB; have HB := n0_; clear n0_; (try clear hb); (try clear hb2); (try clear hk); (try clear hi)) | ((with_reducible refine gate_callee (f := 27) rfl ?_); refine goesL_ (some 46) rfl rfl Tryd.func27 (by kernel_rfl) rfl #[.float .f64 a2] rfl (by (try simp only [List.map_toArray, List.map_cons, List.map_nil]); first | done | rfl | (simp only [List.length_drop, List.length_take]; rfl)) ?_; (with_reducible refine (rate_Ticks.calls a2 t121 t122 _ A20.out).mono ?_); rintro e w31 ⟨rfl, hb⟩; refine ⟨_, rfl, ?_⟩; have n0_ := Aside0.mk (below_step (by repeat (first | (with_reducible first | exact HB.out | apply below_alloc | apply pw_below_drewN | apply below_drew1) | exact HB.out)) hb); clear HB; have HB := n0_; clear n0_; (try clear hb); (try clear hb2); (try clear hk); (try clear hi)) | (go_at_call 17; (with_reducible refine (rate_Bits.calls a1 t123 _ A24.out).mono ?_); rintro e w32 ⟨rfl, hb⟩; have n0_ := Aside0.mk (below_step (by repeat (first | (with_reducible first | exact HB.out | apply below_alloc | apply pw_below_drewN | apply below_drew1) | exact HB.out)) hb); clear HB; have HB := n0_; clear n0_; (try clear hb); (try clear hb2); (try clear hk); (try clear hi)) | ((with_reducible refine gate_callee (f := 11) rfl ?_); refine goesL_ (some 77) rfl rfl Tryd.func11 (by kernel_rfl) rfl #[] rfl (by (try simp only [List.map_toArray, List.map_cons, List.map_nil]); first | done | rfl | (simp only [List.length_drop, List.length_take]; rfl)) ?_; (with_reducible refine (tiklaw1_first.calls  true _ ?side1 A26.out).mono ?_); (case side1 => exact tabAt HT.out (by repeat (first | (with_reducible first | exact HB.out | apply below_alloc | apply pw_below_drewN | apply below_drew1) | exact HB.out))); rintro e w33 ⟨rfl, hb⟩; refine ⟨_, rfl, ?_⟩; have n0_ := Aside0.mk (below_step (by repeat (first | (with_reducible first | exact HB.out | apply below_alloc | apply pw_below_drewN | apply below_drew1) | exact HB.out)) hb); clear HB; have HB := n0_; clear n0_; (try clear hb); (try clear hb2); (try clear hk); (try clear hi)))
                          go_ret
                          exact ⟨by first | rfl | (simp [errW_none, errW_some] <;> rfl) | (simp [*, errW_none, errW_some] <;> rfl), by repeat (first | (with_reducible first | exact HB.out | apply below_alloc | apply pw_below_drewN | apply below_drew1) | exact HB.out)⟩
                        · rw [if_neg c29] at H
                          have c29b0 : (FloatKind.f64.format.order a1 a2 == some Ordering.lt || FloatKind.f64.format.order a1 a2 == some Ordering.eq) = false := by simpa using c29
                          (try (have c29b1 : decide (FloatKind.f64.format.order a1 a2 = some Ordering.lt || FloatKind.f64.format.order a1 a2 == some Ordering.eq) = false := by simpa using c29))
                          (try (have c29b2 : (FloatKind.f64.format.order a1 a2 == some Ordering.lt || FloatKind.f64.format.order a1 a2 == some Ordering.eq) = false := by simpa using c29))
                          (try (have c29b3 : ¬ (FloatKind.f64.format.order a1 a2 = some Ordering.lt || FloatKind.f64.format.order a1 a2 == some Ordering.eq) := by simpa using c29))
                          clear c29
                          obtain rfl := Option.some.inj H
                          go_wp2_with (first | (first | simp only [neg_run] | simp only [sub_runT (by assumption)]) | ((with_reducible refine gate_callee (f := 27) rfl ?_); refine goesL_ (some 41) rfl rfl Tryd.func27 (by kernel_rfl) rfl #[.float .f64 a1] rfl (by (try simp only [List.map_toArray, List.map_cons, List.map_nil]); first | done | rfl | (simp only [List.length_drop, List.length_take]; rfl)) ?_; (with_reducible refine (rate_Ticks.calls a1 t119 t120 _ A19.out).mono ?_); rintro e w34 ⟨rfl, hb⟩; refine ⟨_, rfl, ?_⟩; have n0_ := Aside0.mk (below_step (by repeat (first | (with_reducible first | exact HB.out | apply below_alloc | apply pw_below_drewN | apply below_drew1) | exact HB.out)) hb); clear HB; have HB := n0_; clear n0_; (try clear hb); (try clear hb2); (try clear hk); (try clear hi)) | ((with_reducible refine gate_callee (f := 27) rfl ?_); refine goesL_ (some 46) rfl rfl Tryd.func27 (by kernel_rfl) rfl #[.float .f64 a2] rfl (by (try simp only [List.map_toArray, List.map_cons, List.map_nil]); first | done | rfl | (simp only [List.length_drop, List.length_take]; rfl)) ?_; (with_reducible refine (rate_Ticks.calls a2 t121 t122 _ A20.out).mono ?_); rintro e w35 ⟨rfl, hb⟩; refine ⟨_, rfl, ?_⟩; have n0_ := Aside0.mk (below_step (by repeat (first | (with_reducible first | exact HB.out | apply below_alloc | apply pw_below_drewN | apply below_drew1) | exact HB.out)) hb); clear HB; have HB := n0_; clear n0_; (try clear hb); (try clear hb2); (try clear hk); (try clear hi)) | (go_at_call 17; (with_reducible refine (rate_Bits.calls a1 t123 _ A24.out).mono ?_); rintro e w36 ⟨rfl, hb⟩; have n0_ := Aside0.mk (below_step (by repeat (first | (with_reducible first | exact HB.out | apply below_alloc | apply pw_below_drewN | apply below_drew1) | exact HB.out)) hb); clear HB; have HB := n0_; clear n0_; (try clear hb); (try clear hb2); (try clear hk); (try clear hi)) | ((with_reducible refine gate_callee (f := 11) rfl ?_); refine goesL_ (some 77) rfl rfl Tryd.func11 (by kernel_rfl) rfl #[] rfl (by (try simp only [List.map_toArray, List.map_cons, List.map_nil]); first | done | rfl | (simp only [List.length_drop, List.length_take]; rfl)) ?_; (with_reducible refine (tiklaw1_first.calls  true _ ?side1 A26.out).mono ?_); (case side1 => exact tabAt HT.out (by repeat (first | (with_reducible first | exact HB.out | apply below_alloc | apply pw_below_drewN | apply below_drew1) | exact HB.out))); rintro e w37 ⟨rfl, hb⟩; refine ⟨_, rfl, ?_⟩; have n0_ := Aside0.mk (below_step (by repeat (first | (with_reducible first | exact HB.out | apply below_alloc | apply pw_below_drewN | apply below_drew1) | exact HB.out)) hb); clear HB; have HB := n0_; clear n0_; (try clear hb); (try clear hb2); (try clear hk); (try clear hi)))
                          go_ret
                          exact ⟨by first | rfl | (simp [errW_none, errW_some] <;> rfl) | (simp [*, errW_none, errW_some] <;> rfl), by repeat (first | (with_reducible first | exact HB.out | apply below_alloc | apply pw_below_drewN | apply below_drew1) | exact HB.out)⟩
                      · rw [if_neg c28] at H
                        have c28b0 : (t122 == 0) = false := beq_eq_false_iff_ne.mpr c28
                        have c28b1 : (t122 != 0) = true := bne_iff_ne.mpr c28
                        obtain rfl := Option.some.inj H
                        go_wp2_with (first | (first | simp only [neg_run] | simp only [sub_runT (by assumption)]) | ((with_reducible refine gate_callee (f := 27) rfl ?_); refine goesL_ (some 41) rfl rfl Tryd.func27 (by kernel_rfl) rfl #[.float .f64 a1] rfl (by (try simp only [List.map_toArray, List.map_cons, List.map_nil]); first | done | rfl | (simp only [List.length_drop, List.length_take]; rfl)) ?_; (with_reducible refine (rate_Ticks.calls a1 t119 t120 _ A19.out).mono ?_); rintro e w38 ⟨rfl, hb⟩; refine ⟨_, rfl, ?_⟩; have n0_ := Aside0.mk (below_step (by repeat (first | (with_reducible first | exact HB.out | apply below_alloc | apply pw_below_drewN | apply below_drew1) | exact HB.out)) hb); clear HB; have HB := n0_; clear n0_; (try clear hb); (try clear hb2); (try clear hk); (try clear hi)) | ((with_reducible refine gate_callee (f := 27) rfl ?_); refine goesL_ (some 46) rfl rfl Tryd.func27 (by kernel_rfl) rfl #[.float .f64 a2] rfl (by (try simp only [List.map_toArray, List.map_cons, List.map_nil]); first | done | rfl | (simp only [List.length_drop, List.length_take]; rfl)) ?_; (with_reducible refine (rate_Ticks.calls a2 t121 t122 _ A20.out).mono ?_); rintro e w39 ⟨rfl, hb⟩; refine ⟨_, rfl, ?_⟩; have n0_ := Aside0.mk (below_step (by repeat (first | (with_reducible first | exact HB.out | apply below_alloc | apply pw_below_drewN | apply below_drew1) | exact HB.out)) hb); clear HB; have HB := n0_; clear n0_; (try clear hb); (try clear hb2); (try clear hk); (try clear hi)) | (go_at_call 17; (with_reducible refine (rate_Bits.calls a1 t123 _ A24.out).mono ?_); rintro e w40 ⟨rfl, hb⟩; have n0_ := Aside0.mk (below_step (by repeat (first | (with_reducible first | exact HB.out | apply below_alloc | apply pw_below_drewN | apply below_drew1) | exact HB.out)) hb); clear HB; have HB := n0_; clear n0_; (try clear hb); (try clear hb2); (try clear hk); (try clear hi)) | ((with_reducible refine gate_callee (f := 11) rfl ?_); refine goesL_ (some 77) rfl rfl Tryd.func11 (by kernel_rfl) rfl #[] rfl (by (try simp only [List.map_toArray, List.map_cons, List.map_nil]); first | done | rfl | (simp only [List.length_drop, List.length_take]; rfl)) ?_; (with_reducible refine (tiklaw1_first.calls  true _ ?side1 A26.out).mono ?_); (case side1 => exact tabAt HT.out (by repeat (first | (with_reducible first | exact HB.out | apply below_alloc | apply pw_below_drewN | apply below_drew1) | exact HB.out))); rintro e w41 ⟨rfl, hb⟩; refine ⟨_, rfl, ?_⟩; have n0_ := Aside0.mk (below_step (by repeat (first | (with_reducible first | exact HB.out | apply below_alloc | apply pw_below_drewN | apply below_drew1) | exact HB.out)) hb); clear HB; have HB := n0_; clear n0_; (try clear hb); (try clear hb2); (try clear hk); (try clear hi)))
                        go_ret
                        exact ⟨by first | rfl | (simp [errW_none, errW_some] <;> rfl) | (simp [*, errW_none, errW_some] <;> rfl), by repeat (first | (with_reducible first | exact HB.out | apply below_alloc | apply pw_below_drewN | apply below_drew1) | exact HB.out)⟩
                    · replace c27 := Bool.eq_false_iff.mpr c27
                      subst c27
                      have H1 : (some false) = some r := by rw [if_neg (show ¬ (false = true) by decide)] at H; exact H
                      clear H
                      have H := H1
                      clear H1
                      exact absurd ((Option.some.inj H).trans hr_.out) (by simp)
                · rw [if_neg c23] at H
                  have c23b0 : (FloatKind.f64.format.order a1 a1 == some Ordering.eq) = false := by simpa using c23
                  (try (have c23b1 : decide (FloatKind.f64.format.order a1 a1 = some Ordering.eq) = false := by simpa using c23))
                  (try (have c23b2 : (FloatKind.f64.format.order a1 a1 == some Ordering.eq) = false := by simpa using c23))
                  (try (have c23b3 : ¬ (FloatKind.f64.format.order a1 a1 = some Ordering.eq) := by simpa using c23))
                  clear c23
                  by_cases c42 : ((t120 == 11) != false) = true
                  · rw [if_pos c42] at H
                    have c42b0 : ((t120 == 11) != false) = true := c42
                    (try (have c42b1 : decide ((t120 == 11) = false) = false := by simpa using c42))
                    (try (have c42b2 : ((t120 == 11) == false) = false := by simpa using c42))
                    (try (have c42b3 : ¬ ((t120 == 11) = false) := by simpa using c42))
                    clear c42
                    exact absurd ((Option.some.inj H).trans hr_.out) (by simp)
                  · rw [if_neg c42] at H
                    have c42b0 : ((t120 == 11) != false) = false := by simpa using c42
                    (try (have c42b1 : decide ((t120 == 11) = false) = true := by simpa using c42))
                    (try (have c42b2 : ((t120 == 11) == false) = true := by simpa using c42))
                    clear c42
                    replace H := Option.bind_eq_some_iff.mp H
                    obtain ⟨t125, A430, H⟩ := H
                    replace H : (if t125 = true then (if t122 = 0 then (if ((FloatKind.f64.format.order a1 a2 == some Ordering.lt || FloatKind.f64.format.order a1 a2 == some Ordering.eq) = true) then (some (decide (t119 ≤ t121))) else (some true)) else (some true)) else (some false)) = some r := H
                    have A43 := Aside0.mk A430
                    clear A430
                    by_cases c44 : t125 = true
                    · subst c44
                      have H1 : (if t122 = 0 then (if ((FloatKind.f64.format.order a1 a2 == some Ordering.lt || FloatKind.f64.format.order a1 a2 == some Ordering.eq) = true) then (some (decide (t119 ≤ t121))) else (some true)) else (some true)) = some r := by rw [if_pos rfl] at H; exact H
                      clear H
                      have H := H1
                      clear H1
                      by_cases c45 : t122 = 0
                      · rw [if_pos c45] at H
                        have c45b0 : (t122 == 0) = true := beq_iff_eq.mpr c45
                        have c45b1 : (t122 != 0) = false := bne_eq_false_iff_eq.mpr c45
                        clear c45
                        by_cases c46 : ((FloatKind.f64.format.order a1 a2 == some Ordering.lt || FloatKind.f64.format.order a1 a2 == some Ordering.eq) = true)
                        · rw [if_pos c46] at H
                          have c46b0 : (FloatKind.f64.format.order a1 a2 == some Ordering.lt || FloatKind.f64.format.order a1 a2 == some Ordering.eq) = true := c46
                          (try (have c46b1 : decide (FloatKind.f64.format.order a1 a2 = some Ordering.lt || FloatKind.f64.format.order a1 a2 == some Ordering.eq) = true := by simpa using c46))
                          (try (have c46b2 : (FloatKind.f64.format.order a1 a2 == some Ordering.lt || FloatKind.f64.format.order a1 a2 == some Ordering.eq) = true := by simpa using c46))
                          clear c46
                          obtain rfl := Option.some.inj H
                          go_wp2_with (first | (first | simp only [neg_run] | simp only [sub_runT (by assumption)]) | ((with_reducible refine gate_callee (f := 27) rfl ?_); refine goesL_ (some 41) rfl rfl Tryd.func27 (by kernel_rfl) rfl #[.float .f64 a1] rfl (by (try simp only [List.map_toArray, List.map_cons, List.map_nil]); first | done | rfl | (simp only [List.length_drop, List.length_take]; rfl)) ?_; (with_reducible refine (rate_Ticks.calls a1 t119 t120 _ A19.out).mono ?_); rintro e w47 ⟨rfl, hb⟩; refine ⟨_, rfl, ?_⟩; have n0_ := Aside0.mk (below_step (by repeat (first | (with_reducible first | exact HB.out | apply below_alloc | apply pw_below_drewN | apply below_drew1) | exact HB.out)) hb); clear HB; have HB := n0_; clear n0_; (try clear hb); (try clear hb2); (try clear hk); (try clear hi)) | ((with_reducible refine gate_callee (f := 27) rfl ?_); refine goesL_ (some 46) rfl rfl Tryd.func27 (by kernel_rfl) rfl #[.float .f64 a2] rfl (by (try simp only [List.map_toArray, List.map_cons, List.map_nil]); first | done | rfl | (simp only [List.length_drop, List.length_take]; rfl)) ?_; (with_reducible refine (rate_Ticks.calls a2 t121 t122 _ A20.out).mono ?_); rintro e w48 ⟨rfl, hb⟩; refine ⟨_, rfl, ?_⟩; have n0_ := Aside0.mk (below_step (by repeat (first | (with_reducible first | exact HB.out | apply below_alloc | apply pw_below_drewN | apply below_drew1) | exact HB.out)) hb); clear HB; have HB := n0_; clear n0_; (try clear hb); (try clear hb2); (try clear hk); (try clear hi)) | ((with_reducible refine gate_callee (f := 11) rfl ?_); refine goesL_ (some 77) rfl rfl Tryd.func11 (by kernel_rfl) rfl #[] rfl (by (try simp only [List.map_toArray, List.map_cons, List.map_nil]); first | done | rfl | (simp only [List.length_drop, List.length_take]; rfl)) ?_; (with_reducible refine (tiklaw1_first.calls  true _ ?side1 A43.out).mono ?_); (case side1 => exact tabAt HT.out (by repeat (first | (with_reducible first | exact HB.out | apply below_alloc | apply pw_below_drewN | apply below_drew1) | exact HB.out))); rintro e w49 ⟨rfl, hb⟩; refine ⟨_, rfl, ?_⟩; have n0_ := Aside0.mk (below_step (by repeat (first | (with_reducible first | exact HB.out | apply below_alloc | apply pw_below_drewN | apply below_drew1) | exact HB.out)) hb); clear HB; have HB := n0_; clear n0_; (try clear hb); (try clear hb2); (try clear hk); (try clear hi)))
                          go_ret
                          exact ⟨by first | rfl | (simp [errW_none, errW_some] <;> rfl) | (simp [*, errW_none, errW_some] <;> rfl), by repeat (first | (with_reducible first | exact HB.out | apply below_alloc | apply pw_below_drewN | apply below_drew1) | exact HB.out)⟩
                        · rw [if_neg c46] at H
                          have c46b0 : (FloatKind.f64.format.order a1 a2 == some Ordering.lt || FloatKind.f64.format.order a1 a2 == some Ordering.eq) = false := by simpa using c46
                          (try (have c46b1 : decide (FloatKind.f64.format.order a1 a2 = some Ordering.lt || FloatKind.f64.format.order a1 a2 == some Ordering.eq) = false := by simpa using c46))
                          (try (have c46b2 : (FloatKind.f64.format.order a1 a2 == some Ordering.lt || FloatKind.f64.format.order a1 a2 == some Ordering.eq) = false := by simpa using c46))
                          (try (have c46b3 : ¬ (FloatKind.f64.format.order a1 a2 = some Ordering.lt || FloatKind.f64.format.order a1 a2 == some Ordering.eq) := by simpa using c46))
                          clear c46
                          obtain rfl := Option.some.inj H
                          go_wp2_with (first | (first | simp only [neg_run] | simp only [sub_runT (by assumption)]) | ((with_reducible refine gate_callee (f := 27) rfl ?_); refine goesL_ (some 41) rfl rfl Tryd.func27 (by kernel_rfl) rfl #[.float .f64 a1] rfl (by (try simp only [List.map_toArray, List.map_cons, List.map_nil]); first | done | rfl | (simp only [List.length_drop, List.length_take]; rfl)) ?_; (with_reducible refine (rate_Ticks.calls a1 t119 t120 _ A19.out).mono ?_); rintro e w50 ⟨rfl, hb⟩; refine ⟨_, rfl, ?_⟩; have n0_ := Aside0.mk (below_step (by repeat (first | (with_reducible first | exact HB.out | apply below_alloc | apply pw_below_drewN | apply below_drew1) | exact HB.out)) hb); clear HB; have HB := n0_; clear n0_; (try clear hb); (try clear hb2); (try clear hk); (try clear hi)) | ((with_reducible refine gate_callee (f := 27) rfl ?_); refine goesL_ (some 46) rfl rfl Tryd.func27 (by kernel_rfl) rfl #[.float .f64 a2] rfl (by (try simp only [List.map_toArray, List.map_cons, List.map_nil]); first | done | rfl | (simp only [List.length_drop, List.length_take]; rfl)) ?_; (with_reducible refine (rate_Ticks.calls a2 t121 t122 _ A20.out).mono ?_); rintro e w51 ⟨rfl, hb⟩; refine ⟨_, rfl, ?_⟩; have n0_ := Aside0.mk (below_step (by repeat (first | (with_reducible first | exact HB.out | apply below_alloc | apply pw_below_drewN | apply below_drew1) | exact HB.out)) hb); clear HB; have HB := n0_; clear n0_; (try clear hb); (try clear hb2); (try clear hk); (try clear hi)) | ((with_reducible refine gate_callee (f := 11) rfl ?_); refine goesL_ (some 77) rfl rfl Tryd.func11 (by kernel_rfl) rfl #[] rfl (by (try simp only [List.map_toArray, List.map_cons, List.map_nil]); first | done | rfl | (simp only [List.length_drop, List.length_take]; rfl)) ?_; (with_reducible refine (tiklaw1_first.calls  true _ ?side1 A43.out).mono ?_); (case side1 => exact tabAt HT.out (by repeat (first | (with_reducible first | exact HB.out | apply below_alloc | apply pw_below_drewN | apply below_drew1) | exact HB.out))); rintro e w52 ⟨rfl, hb⟩; refine ⟨_, rfl, ?_⟩; have n0_ := Aside0.mk (below_step (by repeat (first | (with_reducible first | exact HB.out | apply below_alloc | apply pw_below_drewN | apply below_drew1) | exact HB.out)) hb); clear HB; have HB := n0_; clear n0_; (try clear hb); (try clear hb2); (try clear hk); (try clear hi)))
                          go_ret
                          exact ⟨by first | rfl | (simp [errW_none, errW_some] <;> rfl) | (simp [*, errW_none, errW_some] <;> rfl), by repeat (first | (with_reducible first | exact HB.out | apply below_alloc | apply pw_below_drewN | apply below_drew1) | exact HB.out)⟩
                      · rw [if_neg c45] at H
                        have c45b0 : (t122 == 0) = false := beq_eq_false_iff_ne.mpr c45
                        have c45b1 : (t122 != 0) = true := bne_iff_ne.mpr c45
                        obtain rfl := Option.some.inj H
                        go_wp2_with (first | (first | simp only [neg_run] | simp only [sub_runT (by assumption)]) | ((with_reducible refine gate_callee (f := 27) rfl ?_); refine goesL_ (some 41) rfl rfl Tryd.func27 (by kernel_rfl) rfl #[.float .f64 a1] rfl (by (try simp only [List.map_toArray, List.map_cons, List.map_nil]); first | done | rfl | (simp only [List.length_drop, List.length_take]; rfl)) ?_; (with_reducible refine (rate_Ticks.calls a1 t119 t120 _ A19.out).mono ?_); rintro e w53 ⟨rfl, hb⟩; refine ⟨_, rfl, ?_⟩; have n0_ := Aside0.mk (below_step (by repeat (first | (with_reducible first | exact HB.out | apply below_alloc | apply pw_below_drewN | apply below_drew1) | exact HB.out)) hb); clear HB; have HB := n0_; clear n0_; (try clear hb); (try clear hb2); (try clear hk); (try clear hi)) | ((with_reducible refine gate_callee (f := 27) rfl ?_); refine goesL_ (some 46) rfl rfl Tryd.func27 (by kernel_rfl) rfl #[.float .f64 a2] rfl (by (try simp only [List.map_toArray, List.map_cons, List.map_nil]); first | done | rfl | (simp only [List.length_drop, List.length_take]; rfl)) ?_; (with_reducible refine (rate_Ticks.calls a2 t121 t122 _ A20.out).mono ?_); rintro e w54 ⟨rfl, hb⟩; refine ⟨_, rfl, ?_⟩; have n0_ := Aside0.mk (below_step (by repeat (first | (with_reducible first | exact HB.out | apply below_alloc | apply pw_below_drewN | apply below_drew1) | exact HB.out)) hb); clear HB; have HB := n0_; clear n0_; (try clear hb); (try clear hb2); (try clear hk); (try clear hi)) | ((with_reducible refine gate_callee (f := 11) rfl ?_); refine goesL_ (some 77) rfl rfl Tryd.func11 (by kernel_rfl) rfl #[] rfl (by (try simp only [List.map_toArray, List.map_cons, List.map_nil]); first | done | rfl | (simp only [List.length_drop, List.length_take]; rfl)) ?_; (with_reducible refine (tiklaw1_first.calls  true _ ?side1 A43.out).mono ?_); (case side1 => exact tabAt HT.out (by repeat (first | (with_reducible first | exact HB.out | apply below_alloc | apply pw_below_drewN | apply below_drew1) | exact HB.out))); rintro e w55 ⟨rfl, hb⟩; refine ⟨_, rfl, ?_⟩; have n0_ := Aside0.mk (below_step (by repeat (first | (with_reducible first | exact HB.out | apply below_alloc | apply pw_below_drewN | apply below_drew1) | exact HB.out)) hb); clear HB; have HB := n0_; clear n0_; (try clear hb); (try clear hb2); (try clear hk); (try clear hi)))
                        go_ret
                        exact ⟨by first | rfl | (simp [errW_none, errW_some] <;> rfl) | (simp [*, errW_none, errW_some] <;> rfl), by repeat (first | (with_reducible first | exact HB.out | apply below_alloc | apply pw_below_drewN | apply below_drew1) | exact HB.out)⟩
                    · replace c44 := Bool.eq_false_iff.mpr c44
                      subst c44
                      have H1 : (some false) = some r := by rw [if_neg (show ¬ (false = true) by decide)] at H; exact H
                      clear H
                      have H := H1
                      clear H1
                      exact absurd ((Option.some.inj H).trans hr_.out) (by simp)
              · rw [if_neg c22] at H
                have c22b0 : (t120 == 0) = false := beq_eq_false_iff_ne.mpr c22
                have c22b1 : (t120 != 0) = true := bne_iff_ne.mpr c22
                by_cases c56 : t119 = 0
                · rw [if_pos c56] at H
                  have c56b0 : (t119 == 0) = true := beq_iff_eq.mpr c56
                  have c56b1 : (t119 != 0) = false := bne_eq_false_iff_eq.mpr c56
                  clear c56
                  by_cases c57 : (FloatKind.f64.format.order a1 a1 == some Ordering.eq) = true
                  · rw [if_pos c57] at H
                    have c57b0 : (FloatKind.f64.format.order a1 a1 == some Ordering.eq) = true := c57
                    (try (have c57b1 : decide (FloatKind.f64.format.order a1 a1 = some Ordering.eq) = true := by simpa using c57))
                    (try (have c57b2 : (FloatKind.f64.format.order a1 a1 == some Ordering.eq) = true := by simpa using c57))
                    clear c57
                    replace H := Option.bind_eq_some_iff.mp H
                    obtain ⟨t126, A580, H⟩ := H
                    replace H : (if ((t120 == 11) != ((t126 / 9223372036854775808) == 1)) = true then (some false) else ((tiklaw1_first.f).bind fun t127 => (if t127 = true then (some true) else (some false)))) = some r := H
                    have A58 := Aside0.mk A580
                    clear A580
                    by_cases c59 : ((t120 == 11) != ((t126 / 9223372036854775808) == 1)) = true
                    · rw [if_pos c59] at H
                      have c59b0 : ((t120 == 11) != ((t126 / 9223372036854775808) == 1)) = true := c59
                      (try (have c59b1 : decide ((t120 == 11) = ((t126 / 9223372036854775808) == 1)) = false := by simpa using c59))
                      (try (have c59b2 : ((t120 == 11) == ((t126 / 9223372036854775808) == 1)) = false := by simpa using c59))
                      (try (have c59b3 : ¬ ((t120 == 11) = ((t126 / 9223372036854775808) == 1)) := by simpa using c59))
                      clear c59
                      exact absurd ((Option.some.inj H).trans hr_.out) (by simp)
                    · rw [if_neg c59] at H
                      have c59b0 : ((t120 == 11) != ((t126 / 9223372036854775808) == 1)) = false := by simpa using c59
                      (try (have c59b1 : decide ((t120 == 11) = ((t126 / 9223372036854775808) == 1)) = true := by simpa using c59))
                      (try (have c59b2 : ((t120 == 11) == ((t126 / 9223372036854775808) == 1)) = true := by simpa using c59))
                      clear c59
                      replace H := Option.bind_eq_some_iff.mp H
                      obtain ⟨t127, A600, H⟩ := H
                      replace H : (if t127 = true then (some true) else (some false)) = some r := H
                      have A60 := Aside0.mk A600
                      clear A600
                      by_cases c61 : t127 = true
                      · subst c61
                        have H1 : (some true) = some r := by rw [if_pos rfl] at H; exact H
                        clear H
                        have H := H1
                        clear H1
                        obtain rfl := Option.some.inj H
                        go_wp2_with (first | (first | simp only [neg_run] | simp only [sub_runT (by assumption)]) | ((with_reducible refine gate_callee (f := 27) rfl ?_); refine goesL_ (some 41) rfl rfl Tryd.func27 (by kernel_rfl) rfl #[.float .f64 a1] rfl (by (try simp only [List.map_toArray, List.map_cons, List.map_nil]); first | done | rfl | (simp only [List.length_drop, List.length_take]; rfl)) ?_; (with_reducible refine (rate_Ticks.calls a1 t119 t120 _ A19.out).mono ?_); rintro e w62 ⟨rfl, hb⟩; refine ⟨_, rfl, ?_⟩; have n0_ := Aside0.mk (below_step (by repeat (first | (with_reducible first | exact HB.out | apply below_alloc | apply pw_below_drewN | apply below_drew1) | exact HB.out)) hb); clear HB; have HB := n0_; clear n0_; (try clear hb); (try clear hb2); (try clear hk); (try clear hi)) | ((with_reducible refine gate_callee (f := 27) rfl ?_); refine goesL_ (some 46) rfl rfl Tryd.func27 (by kernel_rfl) rfl #[.float .f64 a2] rfl (by (try simp only [List.map_toArray, List.map_cons, List.map_nil]); first | done | rfl | (simp only [List.length_drop, List.length_take]; rfl)) ?_; (with_reducible refine (rate_Ticks.calls a2 t121 t122 _ A20.out).mono ?_); rintro e w63 ⟨rfl, hb⟩; refine ⟨_, rfl, ?_⟩; have n0_ := Aside0.mk (below_step (by repeat (first | (with_reducible first | exact HB.out | apply below_alloc | apply pw_below_drewN | apply below_drew1) | exact HB.out)) hb); clear HB; have HB := n0_; clear n0_; (try clear hb); (try clear hb2); (try clear hk); (try clear hi)) | (go_at_call 17; (with_reducible refine (rate_Bits.calls a1 t126 _ A58.out).mono ?_); rintro e w64 ⟨rfl, hb⟩; have n0_ := Aside0.mk (below_step (by repeat (first | (with_reducible first | exact HB.out | apply below_alloc | apply pw_below_drewN | apply below_drew1) | exact HB.out)) hb); clear HB; have HB := n0_; clear n0_; (try clear hb); (try clear hb2); (try clear hk); (try clear hi)) | ((with_reducible refine gate_callee (f := 11) rfl ?_); refine goesL_ (some 77) rfl rfl Tryd.func11 (by kernel_rfl) rfl #[] rfl (by (try simp only [List.map_toArray, List.map_cons, List.map_nil]); first | done | rfl | (simp only [List.length_drop, List.length_take]; rfl)) ?_; (with_reducible refine (tiklaw1_first.calls  true _ ?side1 A60.out).mono ?_); (case side1 => exact tabAt HT.out (by repeat (first | (with_reducible first | exact HB.out | apply below_alloc | apply pw_below_drewN | apply below_drew1) | exact HB.out))); rintro e w65 ⟨rfl, hb⟩; refine ⟨_, rfl, ?_⟩; have n0_ := Aside0.mk (below_step (by repeat (first | (with_reducible first | exact HB.out | apply below_alloc | apply pw_below_drewN | apply below_drew1) | exact HB.out)) hb); clear HB; have HB := n0_; clear n0_; (try clear hb); (try clear hb2); (try clear hk); (try clear hi)))
                        go_ret
                        exact ⟨by first | rfl | (simp [errW_none, errW_some] <;> rfl) | (simp [*, errW_none, errW_some] <;> rfl), by repeat (first | (with_reducible first | exact HB.out | apply below_alloc | apply pw_below_drewN | apply below_drew1) | exact HB.out)⟩
                      · replace c61 := Bool.eq_false_iff.mpr c61
                        subst c61
                        have H1 : (some false) = some r := by rw [if_neg (show ¬ (false = true) by decide)] at H; exact H
                        clear H
                        have H := H1
                        clear H1
                        exact absurd ((Option.some.inj H).trans hr_.out) (by simp)
                  · rw [if_neg c57] at H
                    have c57b0 : (FloatKind.f64.format.order a1 a1 == some Ordering.eq) = false := by simpa using c57
                    (try (have c57b1 : decide (FloatKind.f64.format.order a1 a1 = some Ordering.eq) = false := by simpa using c57))
                    (try (have c57b2 : (FloatKind.f64.format.order a1 a1 == some Ordering.eq) = false := by simpa using c57))
                    (try (have c57b3 : ¬ (FloatKind.f64.format.order a1 a1 = some Ordering.eq) := by simpa using c57))
                    clear c57
                    by_cases c66 : ((t120 == 11) != false) = true
                    · rw [if_pos c66] at H
                      have c66b0 : ((t120 == 11) != false) = true := c66
                      (try (have c66b1 : decide ((t120 == 11) = false) = false := by simpa using c66))
                      (try (have c66b2 : ((t120 == 11) == false) = false := by simpa using c66))
                      (try (have c66b3 : ¬ ((t120 == 11) = false) := by simpa using c66))
                      clear c66
                      exact absurd ((Option.some.inj H).trans hr_.out) (by simp)
                    · rw [if_neg c66] at H
                      have c66b0 : ((t120 == 11) != false) = false := by simpa using c66
                      (try (have c66b1 : decide ((t120 == 11) = false) = true := by simpa using c66))
                      (try (have c66b2 : ((t120 == 11) == false) = true := by simpa using c66))
                      clear c66
                      replace H := Option.bind_eq_some_iff.mp H
                      obtain ⟨t128, A670, H⟩ := H
                      replace H : (if t128 = true then (some true) else (some false)) = some r := H
                      have A67 := Aside0.mk A670
                      clear A670
                      by_cases c68 : t128 = true
                      · subst c68
                        have H1 : (some true) = some r := by rw [if_pos rfl] at H; exact H
                        clear H
                        have H := H1
                        clear H1
                        obtain rfl := Option.some.inj H
                        go_wp2_with (first | (first | simp only [neg_run] | simp only [sub_runT (by assumption)]) | ((with_reducible refine gate_callee (f := 27) rfl ?_); refine goesL_ (some 41) rfl rfl Tryd.func27 (by kernel_rfl) rfl #[.float .f64 a1] rfl (by (try simp only [List.map_toArray, List.map_cons, List.map_nil]); first | done | rfl | (simp only [List.length_drop, List.length_take]; rfl)) ?_; (with_reducible refine (rate_Ticks.calls a1 t119 t120 _ A19.out).mono ?_); rintro e w69 ⟨rfl, hb⟩; refine ⟨_, rfl, ?_⟩; have n0_ := Aside0.mk (below_step (by repeat (first | (with_reducible first | exact HB.out | apply below_alloc | apply pw_below_drewN | apply below_drew1) | exact HB.out)) hb); clear HB; have HB := n0_; clear n0_; (try clear hb); (try clear hb2); (try clear hk); (try clear hi)) | ((with_reducible refine gate_callee (f := 27) rfl ?_); refine goesL_ (some 46) rfl rfl Tryd.func27 (by kernel_rfl) rfl #[.float .f64 a2] rfl (by (try simp only [List.map_toArray, List.map_cons, List.map_nil]); first | done | rfl | (simp only [List.length_drop, List.length_take]; rfl)) ?_; (with_reducible refine (rate_Ticks.calls a2 t121 t122 _ A20.out).mono ?_); rintro e w70 ⟨rfl, hb⟩; refine ⟨_, rfl, ?_⟩; have n0_ := Aside0.mk (below_step (by repeat (first | (with_reducible first | exact HB.out | apply below_alloc | apply pw_below_drewN | apply below_drew1) | exact HB.out)) hb); clear HB; have HB := n0_; clear n0_; (try clear hb); (try clear hb2); (try clear hk); (try clear hi)) | ((with_reducible refine gate_callee (f := 11) rfl ?_); refine goesL_ (some 77) rfl rfl Tryd.func11 (by kernel_rfl) rfl #[] rfl (by (try simp only [List.map_toArray, List.map_cons, List.map_nil]); first | done | rfl | (simp only [List.length_drop, List.length_take]; rfl)) ?_; (with_reducible refine (tiklaw1_first.calls  true _ ?side1 A67.out).mono ?_); (case side1 => exact tabAt HT.out (by repeat (first | (with_reducible first | exact HB.out | apply below_alloc | apply pw_below_drewN | apply below_drew1) | exact HB.out))); rintro e w71 ⟨rfl, hb⟩; refine ⟨_, rfl, ?_⟩; have n0_ := Aside0.mk (below_step (by repeat (first | (with_reducible first | exact HB.out | apply below_alloc | apply pw_below_drewN | apply below_drew1) | exact HB.out)) hb); clear HB; have HB := n0_; clear n0_; (try clear hb); (try clear hb2); (try clear hk); (try clear hi)))
                        go_ret
                        exact ⟨by first | rfl | (simp [errW_none, errW_some] <;> rfl) | (simp [*, errW_none, errW_some] <;> rfl), by repeat (first | (with_reducible first | exact HB.out | apply below_alloc | apply pw_below_drewN | apply below_drew1) | exact HB.out)⟩
                      · replace c68 := Bool.eq_false_iff.mpr c68
                        subst c68
                        have H1 : (some false) = some r := by rw [if_neg (show ¬ (false = true) by decide)] at H; exact H
                        clear H
                        have H := H1
                        clear H1
                        exact absurd ((Option.some.inj H).trans hr_.out) (by simp)
                · rw [if_neg c56] at H
                  have c56b0 : (t119 == 0) = false := beq_eq_false_iff_ne.mpr c56
                  have c56b1 : (t119 != 0) = true := bne_iff_ne.mpr c56
                  exact absurd ((Option.some.inj H).trans hr_.out) (by simp)
  · replace c5 := Bool.eq_false_iff.mpr c5
    subst c5
    have H1 : (some false) = some r := by rw [if_neg (show ¬ (false = true) by decide)] at H; exact H
    clear H
    have H := H1
    clear H1
    exact absurd ((Option.some.inj H).trans hr_.out) (by simp)

end Go.Proofs.YtpebcphkockkkaaDoor.PO
