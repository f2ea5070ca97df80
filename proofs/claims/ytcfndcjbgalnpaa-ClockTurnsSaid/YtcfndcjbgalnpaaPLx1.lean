-- written for this claim by mp.py (this repo), with the kit's print; checked by the kernel alone
import Derived.Test.YtcfndcjbgalnpaaPLx0
namespace Go.Proofs.Ytcfndcjbgalnpaa.PL
open Go.RowKit Go.Proofs.YtcfndcjbgalnpaaW.PrintWords Go.Proofs.YtcfndcjbgalnpaaW.PrintLast Go.Proofs.YtcfndcjbgalnpaaW.PrintMore
attribute [local go_sem] max2_int min2_int max_two min_two max_three min_three max_four min_four   -- for this text's walks alone
open Go.Proofs.Ytcfndcjbgalnpaa.Hand
open Go.Proofs.Ytcfndcjbgalnpaa.PA
open Go.Proofs.Ytcfndcjbgalnpaa.PB
open Go.Proofs.Ytcfndcjbgalnpaa.PC
set_option linter.unusedVariables false
set_option linter.unusedSimpArgs false

/-! ### tiklaw22_first: function 7 -/
def tiklaw22_first.f  : Option (Bool) := (clock_New.f 0 10 3 2).bind fun bt101 => (if true = true then (if bt101.2.2.2.2.2 = 0 then ((clock_Clock_At.f bt101.1 bt101.2.1 bt101.2.2.1 bt101.2.2.2.1 bt101.2.2.2.2.1 3).bind fun bt108 => (if bt108.1 = 14 then ((clock_Clock_Go.f bt108.2.1 bt108.2.2.1 bt108.2.2.2.1 bt108.2.2.2.2.1 bt108.2.2.2.2.2 3).bind fun bt114 => (if bt114.1 = 14 then ((clock_Clock_Rest.f bt114.2.1 bt114.2.2.1 bt114.2.2.2.1 bt114.2.2.2.2.1 bt114.2.2.2.2.2).bind fun bt120 => (if bt120.1 = 1 then ((clock_Clock_Go.f bt120.2.1 bt120.2.2.1 bt120.2.2.2.1 bt120.2.2.2.2.1 bt120.2.2.2.2.2 1).bind fun bt126 => (if bt126.1 = 14 then ((clock_Clock_Go.f bt126.2.1 bt126.2.2.1 bt126.2.2.2.1 bt126.2.2.2.2.1 bt126.2.2.2.2.2 4).bind fun bt132 => (some (bt132.1 == 16))) else (some false))) else (some false))) else (some false))) else (some false))) else (some false)) else (some false))
set_option maxHeartbeats 8000000 in
set_option maxRecDepth 100000 in
theorem tiklaw22_first.calls  (r : Bool) (w : World) (h : tiklaw22_first.f  = some r) :
    Calls Try.prog 7 #[] w fun e w' => e = .returned (.bool r) ∧ Below w.heap.size w w' := by
  have hu24 := Try.underlying24
  have HB := Aside0.mk (Below.refl w.heap.size w)
  have H : ((clock_New.f 0 10 3 2).bind fun bt101 => (if true = true then (if bt101.2.2.2.2.2 = 0 then ((clock_Clock_At.f bt101.1 bt101.2.1 bt101.2.2.1 bt101.2.2.2.1 bt101.2.2.2.2.1 3).bind fun bt108 => (if bt108.1 = 14 then ((clock_Clock_Go.f bt108.2.1 bt108.2.2.1 bt108.2.2.2.1 bt108.2.2.2.2.1 bt108.2.2.2.2.2 3).bind fun bt114 => (if bt114.1 = 14 then ((clock_Clock_Rest.f bt114.2.1 bt114.2.2.1 bt114.2.2.2.1 bt114.2.2.2.2.1 bt114.2.2.2.2.2).bind fun bt120 => (if bt120.1 = 1 then ((clock_Clock_Go.f bt120.2.1 bt120.2.2.1 bt120.2.2.2.1 bt120.2.2.2.2.1 bt120.2.2.2.2.2 1).bind fun bt126 => (if bt126.1 = 14 then ((clock_Clock_Go.f bt126.2.1 bt126.2.2.1 bt126.2.2.2.1 bt126.2.2.2.2.1 bt126.2.2.2.2.2 4).bind fun bt132 => (some (bt132.1 == 16))) else (some false))) else (some false))) else (some false))) else (some false))) else (some false)) else (some false))) = some r := h
  clear h
  replace H := Option.bind_eq_some_iff.mp H
  obtain ⟨⟨t101, t102, t103, t104, t105, t107⟩, A10, H⟩ := H
  replace H : (if true = true then (if t107 = 0 then ((clock_Clock_At.f t101 t102 t103 t104 t105 3).bind fun bt108 => (if bt108.1 = 14 then ((clock_Clock_Go.f bt108.2.1 bt108.2.2.1 bt108.2.2.2.1 bt108.2.2.2.2.1 bt108.2.2.2.2.2 3).bind fun bt114 => (if bt114.1 = 14 then ((clock_Clock_Rest.f bt114.2.1 bt114.2.2.1 bt114.2.2.2.1 bt114.2.2.2.2.1 bt114.2.2.2.2.2).bind fun bt120 => (if bt120.1 = 1 then ((clock_Clock_Go.f bt120.2.1 bt120.2.2.1 bt120.2.2.2.1 bt120.2.2.2.2.1 bt120.2.2.2.2.2 1).bind fun bt126 => (if bt126.1 = 14 then ((clock_Clock_Go.f bt126.2.1 bt126.2.2.1 bt126.2.2.2.1 bt126.2.2.2.2.1 bt126.2.2.2.2.2 4).bind fun bt132 => (some (bt132.1 == 16))) else (some false))) else (some false))) else (some false))) else (some false))) else (some false)) else (some false)) = some r := H
  have A1 := Aside0.mk A10
  clear A10
  have H1 : (if t107 = 0 then ((clock_Clock_At.f t101 t102 t103 t104 t105 3).bind fun bt108 => (if bt108.1 = 14 then ((clock_Clock_Go.f bt108.2.1 bt108.2.2.1 bt108.2.2.2.1 bt108.2.2.2.2.1 bt108.2.2.2.2.2 3).bind fun bt114 => (if bt114.1 = 14 then ((clock_Clock_Rest.f bt114.2.1 bt114.2.2.1 bt114.2.2.2.1 bt114.2.2.2.2.1 bt114.2.2.2.2.2).bind fun bt120 => (if bt120.1 = 1 then ((clock_Clock_Go.f bt120.2.1 bt120.2.2.1 bt120.2.2.2.1 bt120.2.2.2.2.1 bt120.2.2.2.2.2 1).bind fun bt126 => (if bt126.1 = 14 then ((clock_Clock_Go.f bt126.2.1 bt126.2.2.1 bt126.2.2.2.1 bt126.2.2.2.2.1 bt126.2.2.2.2.2 4).bind fun bt132 => (some (bt132.1 == 16))) else (some false))) else (some false))) else (some false))) else (some false))) else (some false)) = some r := by rw [if_pos rfl] at H; exact H
  clear H
  have H := H1
  clear H1
  by_cases c2 : t107 = 0
  · rw [if_pos c2] at H
    have c2b0 : (t107 == 0) = true := beq_iff_eq.mpr c2
    have c2b1 : (t107 != 0) = false := bne_eq_false_iff_eq.mpr c2
    clear c2
    replace H := Option.bind_eq_some_iff.mp H
    obtain ⟨⟨t108, t109, t110, t111, t112, t113⟩, A30, H⟩ := H
    replace H : (if t108 = 14 then ((clock_Clock_Go.f t109 t110 t111 t112 t113 3).bind fun bt114 => (if bt114.1 = 14 then ((clock_Clock_Rest.f bt114.2.1 bt114.2.2.1 bt114.2.2.2.1 bt114.2.2.2.2.1 bt114.2.2.2.2.2).bind fun bt120 => (if bt120.1 = 1 then ((clock_Clock_Go.f bt120.2.1 bt120.2.2.1 bt120.2.2.2.1 bt120.2.2.2.2.1 bt120.2.2.2.2.2 1).bind fun bt126 => (if bt126.1 = 14 then ((clock_Clock_Go.f bt126.2.1 bt126.2.2.1 bt126.2.2.2.1 bt126.2.2.2.2.1 bt126.2.2.2.2.2 4).bind fun bt132 => (some (bt132.1 == 16))) else (some false))) else (some false))) else (some false))) else (some false)) = some r := H
    have A3 := Aside0.mk A30
    clear A30
    by_cases c4 : t108 = 14
    · rw [if_pos c4] at H
      have c4b0 : (t108 == 14) = true := beq_iff_eq.mpr c4
      have c4b1 : (t108 != 14) = false := bne_eq_false_iff_eq.mpr c4
      clear c4
      replace H := Option.bind_eq_some_iff.mp H
      obtain ⟨⟨t114, t115, t116, t117, t118, t119⟩, A50, H⟩ := H
      replace H : (if t114 = 14 then ((clock_Clock_Rest.f t115 t116 t117 t118 t119).bind fun bt120 => (if bt120.1 = 1 then ((clock_Clock_Go.f bt120.2.1 bt120.2.2.1 bt120.2.2.2.1 bt120.2.2.2.2.1 bt120.2.2.2.2.2 1).bind fun bt126 => (if bt126.1 = 14 then ((clock_Clock_Go.f bt126.2.1 bt126.2.2.1 bt126.2.2.2.1 bt126.2.2.2.2.1 bt126.2.2.2.2.2 4).bind fun bt132 => (some (bt132.1 == 16))) else (some false))) else (some false))) else (some false)) = some r := H
      have A5 := Aside0.mk A50
      clear A50
      by_cases c6 : t114 = 14
      · rw [if_pos c6] at H
        have c6b0 : (t114 == 14) = true := beq_iff_eq.mpr c6
        have c6b1 : (t114 != 14) = false := bne_eq_false_iff_eq.mpr c6
        clear c6
        replace H := Option.bind_eq_some_iff.mp H
        obtain ⟨⟨t120, t121, t122, t123, t124, t125⟩, A70, H⟩ := H
        replace H : (if t120 = 1 then ((clock_Clock_Go.f t121 t122 t123 t124 t125 1).bind fun bt126 => (if bt126.1 = 14 then ((clock_Clock_Go.f bt126.2.1 bt126.2.2.1 bt126.2.2.2.1 bt126.2.2.2.2.1 bt126.2.2.2.2.2 4).bind fun bt132 => (some (bt132.1 == 16))) else (some false))) else (some false)) = some r := H
        have A7 := Aside0.mk A70
        clear A70
        by_cases c8 : t120 = 1
        · rw [if_pos c8] at H
          have c8b0 : (t120 == 1) = true := beq_iff_eq.mpr c8
          have c8b1 : (t120 != 1) = false := bne_eq_false_iff_eq.mpr c8
          clear c8
          replace H := Option.bind_eq_some_iff.mp H
          obtain ⟨⟨t126, t127, t128, t129, t130, t131⟩, A90, H⟩ := H
          replace H : (if t126 = 14 then ((clock_Clock_Go.f t127 t128 t129 t130 t131 4).bind fun bt132 => (some (bt132.1 == 16))) else (some false)) = some r := H
          have A9 := Aside0.mk A90
          clear A90
          by_cases c10 : t126 = 14
          · rw [if_pos c10] at H
            have c10b0 : (t126 == 14) = true := beq_iff_eq.mpr c10
            have c10b1 : (t126 != 14) = false := bne_eq_false_iff_eq.mpr c10
            clear c10
            replace H := Option.bind_eq_some_iff.mp H
            obtain ⟨⟨t132, t133, t134, t135, t136, t137⟩, A110, H⟩ := H
            replace H : (some (t132 == 16)) = some r := H
            have A11 := Aside0.mk A110
            clear A110
            obtain rfl := Option.some.inj H
            go_enter Try.func7, Try.ntmps7
            go_wp2_with (first | ((with_reducible refine gate_callee (f := 8) rfl ?_); refine goesL_ (some 5) rfl rfl Try.func8 (by kernel_rfl) rfl #[.int .u64 0, .int .u64 10, .agg #[.int .u64 3, .int .u64 2]] rfl (by (try simp only [List.map_toArray, List.map_cons, List.map_nil]); first | done | rfl | (simp only [List.length_drop, List.length_take]; rfl)) ?_; (with_reducible refine (clock_New.calls 0 10 3 2 t101 t102 t103 t104 t105 t107 w _ ?side1 A1.out).mono ?_); (case side1 => repeat (first | (with_reducible first | exact HB.out | apply below_alloc | apply pw_below_drewN | apply below_drew1) | exact HB.out)); rintro e w12 ⟨g106, rfl, hi, hb, hb2, hnew⟩; refine ⟨_, rfl, ?_⟩; have n0_ := Aside0.mk (hb); have n1_ := Aside0.mk (hi); clear HB; have HB := n0_; have HI106 := n1_; clear n0_ n1_; (try clear hb); (try clear hb2); (try clear hk); (try clear hi)) | (go_at_call 9; (with_reducible refine (clock_Clock_At.calls g106 t101 t102 t103 t104 t105 3 t108 t109 t110 t111 t112 t113 w _ ?side1 ?side2 A3.out).mono ?_); (case side1 => repeat (first | (with_reducible first | exact HI106.out | apply IsS55.alloc | apply IsS55.drewN | apply IsS55.drew | apply IsS55.set_0 | apply IsS55.set_1 | apply IsS55.set_2 | apply IsS55.set_3 | apply IsS55.set_4) | exact HI106.out)); (case side2 => repeat (first | (with_reducible first | exact HB.out | apply below_alloc | apply pw_below_drewN | apply below_drew1 | refine below_set ?_ (IsS55.ge HI106.out)) | exact HB.out)); rintro e w13 ⟨rfl, hi, hb, hk⟩; have n0_ := Aside0.mk (hb); have n1_ := Aside0.mk (hi); clear HB; clear HI106; have HB := n0_; have HI106 := n1_; clear n0_ n1_; (try clear hb); (try clear hb2); (try clear hk); (try clear hi)) | (go_at_call 10; (with_reducible refine (clock_Clock_Go.calls g106 t109 t110 t111 t112 t113 3 t114 t115 t116 t117 t118 t119 w _ ?side1 ?side2 A5.out).mono ?_); (case side1 => repeat (first | (with_reducible first | exact HI106.out | apply IsS55.alloc | apply IsS55.drewN | apply IsS55.drew | apply IsS55.set_0 | apply IsS55.set_1 | apply IsS55.set_2 | apply IsS55.set_3 | apply IsS55.set_4) | exact HI106.out)); (case side2 => repeat (first | (with_reducible first | exact HB.out | apply below_alloc | apply pw_below_drewN | apply below_drew1 | refine below_set ?_ (IsS55.ge HI106.out)) | exact HB.out)); rintro e w14 ⟨rfl, hi, hb, hk⟩; have n0_ := Aside0.mk (hb); have n1_ := Aside0.mk (hi); clear HB; clear HI106; have HB := n0_; have HI106 := n1_; clear n0_ n1_; (try clear hb); (try clear hb2); (try clear hk); (try clear hi)) | (go_at_call 11; (with_reducible refine (clock_Clock_Rest.calls g106 t115 t116 t117 t118 t119 t120 t121 t122 t123 t124 t125 w _ ?side1 ?side2 A7.out).mono ?_); (case side1 => repeat (first | (with_reducible first | exact HI106.out | apply IsS55.alloc | apply IsS55.drewN | apply IsS55.drew | apply IsS55.set_0 | apply IsS55.set_1 | apply IsS55.set_2 | apply IsS55.set_3 | apply IsS55.set_4) | exact HI106.out)); (case side2 => repeat (first | (with_reducible first | exact HB.out | apply below_alloc | apply pw_below_drewN | apply below_drew1 | refine below_set ?_ (IsS55.ge HI106.out)) | exact HB.out)); rintro e w15 ⟨rfl, hi, hb, hk⟩; have n0_ := Aside0.mk (hb); have n1_ := Aside0.mk (hi); clear HB; clear HI106; have HB := n0_; have HI106 := n1_; clear n0_ n1_; (try clear hb); (try clear hb2); (try clear hk); (try clear hi)) | (go_at_call 10; (with_reducible refine (clock_Clock_Go.calls g106 t121 t122 t123 t124 t125 1 t126 t127 t128 t129 t130 t131 w _ ?side1 ?side2 A9.out).mono ?_); (case side1 => repeat (first | (with_reducible first | exact HI106.out | apply IsS55.alloc | apply IsS55.drewN | apply IsS55.drew | apply IsS55.set_0 | apply IsS55.set_1 | apply IsS55.set_2 | apply IsS55.set_3 | apply IsS55.set_4) | exact HI106.out)); (case side2 => repeat (first | (with_reducible first | exact HB.out | apply below_alloc | apply pw_below_drewN | apply below_drew1 | refine below_set ?_ (IsS55.ge HI106.out)) | exact HB.out)); rintro e w16 ⟨rfl, hi, hb, hk⟩; have n0_ := Aside0.mk (hb); have n1_ := Aside0.mk (hi); clear HB; clear HI106; have HB := n0_; have HI106 := n1_; clear n0_ n1_; (try clear hb); (try clear hb2); (try clear hk); (try clear hi)) | (go_at_call 10; (with_reducible refine (clock_Clock_Go.calls g106 t127 t128 t129 t130 t131 4 t132 t133 t134 t135 t136 t137 w _ ?side1 ?side2 A11.out).mono ?_); (case side1 => repeat (first | (with_reducible first | exact HI106.out | apply IsS55.alloc | apply IsS55.drewN | apply IsS55.drew | apply IsS55.set_0 | apply IsS55.set_1 | apply IsS55.set_2 | apply IsS55.set_3 | apply IsS55.set_4) | exact HI106.out)); (case side2 => repeat (first | (with_reducible first | exact HB.out | apply below_alloc | apply pw_below_drewN | apply below_drew1 | refine below_set ?_ (IsS55.ge HI106.out)) | exact HB.out)); rintro e w17 ⟨rfl, hi, hb, hk⟩; have n0_ := Aside0.mk (hb); have n1_ := Aside0.mk (hi); clear HB; clear HI106; have HB := n0_; have HI106 := n1_; clear n0_ n1_; (try clear hb); (try clear hb2); (try clear hk); (try clear hi)))
            go_ret
            exact ⟨by first | rfl | (simp [errW_none, errW_some] <;> rfl) | (simp [*, errW_none, errW_some] <;> rfl), by repeat (first | (with_reducible first | exact HB.out | apply below_alloc | apply pw_below_drewN | apply below_drew1 | refine below_set ?_ (IsS55.ge HI106.out)) | exact HB.out)⟩
          · rw [if_neg c10] at H
            have c10b0 : (t126 == 14) = false := beq_eq_false_iff_ne.mpr c10
            have c10b1 : (t126 != 14) = true := bne_iff_ne.mpr c10
            obtain rfl := Option.some.inj H
            go_enter Try.func7, Try.ntmps7
            go_wp2_with (first | ((with_reducible refine gate_callee (f := 8) rfl ?_); refine goesL_ (some 5) rfl rfl Try.func8 (by kernel_rfl) rfl #[.int .u64 0, .int .u64 10, .agg #[.int .u64 3, .int .u64 2]] rfl (by (try simp only [List.map_toArray, List.map_cons, List.map_nil]); first | done | rfl | (simp only [List.length_drop, List.length_take]; rfl)) ?_; (with_reducible refine (clock_New.calls 0 10 3 2 t101 t102 t103 t104 t105 t107 w _ ?side1 A1.out).mono ?_); (case side1 => repeat (first | (with_reducible first | exact HB.out | apply below_alloc | apply pw_below_drewN | apply below_drew1) | exact HB.out)); rintro e w18 ⟨g106, rfl, hi, hb, hb2, hnew⟩; refine ⟨_, rfl, ?_⟩; have n0_ := Aside0.mk (hb); have n1_ := Aside0.mk (hi); clear HB; have HB := n0_; have HI106 := n1_; clear n0_ n1_; (try clear hb); (try clear hb2); (try clear hk); (try clear hi)) | (go_at_call 9; (with_reducible refine (clock_Clock_At.calls g106 t101 t102 t103 t104 t105 3 t108 t109 t110 t111 t112 t113 w _ ?side1 ?side2 A3.out).mono ?_); (case side1 => repeat (first | (with_reducible first | exact HI106.out | apply IsS55.alloc | apply IsS55.drewN | apply IsS55.drew | apply IsS55.set_0 | apply IsS55.set_1 | apply IsS55.set_2 | apply IsS55.set_3 | apply IsS55.set_4) | exact HI106.out)); (case side2 => repeat (first | (with_reducible first | exact HB.out | apply below_alloc | apply pw_below_drewN | apply below_drew1 | refine below_set ?_ (IsS55.ge HI106.out)) | exact HB.out)); rintro e w19 ⟨rfl, hi, hb, hk⟩; have n0_ := Aside0.mk (hb); have n1_ := Aside0.mk (hi); clear HB; clear HI106; have HB := n0_; have HI106 := n1_; clear n0_ n1_; (try clear hb); (try clear hb2); (try clear hk); (try clear hi)) | (go_at_call 10; (with_reducible refine (clock_Clock_Go.calls g106 t109 t110 t111 t112 t113 3 t114 t115 t116 t117 t118 t119 w _ ?side1 ?side2 A5.out).mono ?_); (case side1 => repeat (first | (with_reducible first | exact HI106.out | apply IsS55.alloc | apply IsS55.drewN | apply IsS55.drew | apply IsS55.set_0 | apply IsS55.set_1 | apply IsS55.set_2 | apply IsS55.set_3 | apply IsS55.set_4) | exact HI106.out)); (case side2 => repeat (first | (with_reducible first | exact HB.out | apply below_alloc | apply pw_below_drewN | apply below_drew1 | refine below_set ?_ (IsS55.ge HI106.out)) | exact HB.out)); rintro e w20 ⟨rfl, hi, hb, hk⟩; have n0_ := Aside0.mk (hb); have n1_ := Aside0.mk (hi); clear HB; clear HI106; have HB := n0_; have HI106 := n1_; clear n0_ n1_; (try clear hb); (try clear hb2); (try clear hk); (try clear hi)) | (go_at_call 11; (with_reducible refine (clock_Clock_Rest.calls g106 t115 t116 t117 t118 t119 t120 t121 t122 t123 t124 t125 w _ ?side1 ?side2 A7.out).mono ?_); (case side1 => repeat (first | (with_reducible first | exact HI106.out | apply IsS55.alloc | apply IsS55.drewN | apply IsS55.drew | apply IsS55.set_0 | apply IsS55.set_1 | apply IsS55.set_2 | apply IsS55.set_3 | apply IsS55.set_4) | exact HI106.out)); (case side2 => repeat (first | (with_reducible first | exact HB.out | apply below_alloc | apply pw_below_drewN | apply below_drew1 | refine below_set ?_ (IsS55.ge HI106.out)) | exact HB.out)); rintro e w21 ⟨rfl, hi, hb, hk⟩; have n0_ := Aside0.mk (hb); have n1_ := Aside0.mk (hi); clear HB; clear HI106; have HB := n0_; have HI106 := n1_; clear n0_ n1_; (try clear hb); (try clear hb2); (try clear hk); (try clear hi)) | (go_at_call 10; (with_reducible refine (clock_Clock_Go.calls g106 t121 t122 t123 t124 t125 1 t126 t127 t128 t129 t130 t131 w _ ?side1 ?side2 A9.out).mono ?_); (case side1 => repeat (first | (with_reducible first | exact HI106.out | apply IsS55.alloc | apply IsS55.drewN | apply IsS55.drew | apply IsS55.set_0 | apply IsS55.set_1 | apply IsS55.set_2 | apply IsS55.set_3 | apply IsS55.set_4) | exact HI106.out)); (case side2 => repeat (first | (with_reducible first | exact HB.out | apply below_alloc | apply pw_below_drewN | apply below_drew1 | refine below_set ?_ (IsS55.ge HI106.out)) | exact HB.out)); rintro e w22 ⟨rfl, hi, hb, hk⟩; have n0_ := Aside0.mk (hb); have n1_ := Aside0.mk (hi); clear HB; clear HI106; have HB := n0_; have HI106 := n1_; clear n0_ n1_; (try clear hb); (try clear hb2); (try clear hk); (try clear hi)))
            go_ret
            exact ⟨by first | rfl | (simp [errW_none, errW_some] <;> rfl) | (simp [*, errW_none, errW_some] <;> rfl), by repeat (first | (with_reducible first | exact HB.out | apply below_alloc | apply pw_below_drewN | apply below_drew1 | refine below_set ?_ (IsS55.ge HI106.out)) | exact HB.out)⟩
        · rw [if_neg c8] at H
          have c8b0 : (t120 == 1) = false := beq_eq_false_iff_ne.mpr c8
          have c8b1 : (t120 != 1) = true := bne_iff_ne.mpr c8
          obtain rfl := Option.some.inj H
          go_enter Try.func7, Try.ntmps7
          go_wp2_with (first | ((with_reducible refine gate_callee (f := 8) rfl ?_); refine goesL_ (some 5) rfl rfl Try.func8 (by kernel_rfl) rfl #[.int .u64 0, .int .u64 10, .agg #[.int .u64 3, .int .u64 2]] rfl (by (try simp only [List.map_toArray, List.map_cons, List.map_nil]); first | done | rfl | (simp only [List.length_drop, List.length_take]; rfl)) ?_; (with_reducible refine (clock_New.calls 0 10 3 2 t101 t102 t103 t104 t105 t107 w _ ?side1 A1.out).mono ?_); (case side1 => repeat (first | (with_reducible first | exact HB.out | apply below_alloc | apply pw_below_drewN | apply below_drew1) | exact HB.out)); rintro e w23 ⟨g106, rfl, hi, hb, hb2, hnew⟩; refine ⟨_, rfl, ?_⟩; have n0_ := Aside0.mk (hb); have n1_ := Aside0.mk (hi); clear HB; have HB := n0_; have HI106 := n1_; clear n0_ n1_; (try clear hb); (try clear hb2); (try clear hk); (try clear hi)) | (go_at_call 9; (with_reducible refine (clock_Clock_At.calls g106 t101 t102 t103 t104 t105 3 t108 t109 t110 t111 t112 t113 w _ ?side1 ?side2 A3.out).mono ?_); (case side1 => repeat (first | (with_reducible first | exact HI106.out | apply IsS55.alloc | apply IsS55.drewN | apply IsS55.drew | apply IsS55.set_0 | apply IsS55.set_1 | apply IsS55.set_2 | apply IsS55.set_3 | apply IsS55.set_4) | exact HI106.out)); (case side2 => repeat (first | (with_reducible first | exact HB.out | apply below_alloc | apply pw_below_drewN | apply below_drew1 | refine below_set ?_ (IsS55.ge HI106.out)) | exact HB.out)); rintro e w24 ⟨rfl, hi, hb, hk⟩; have n0_ := Aside0.mk (hb); have n1_ := Aside0.mk (hi); clear HB; clear HI106; have HB := n0_; have HI106 := n1_; clear n0_ n1_; (try clear hb); (try clear hb2); (try clear hk); (try clear hi)) | (go_at_call 10; (with_reducible refine (clock_Clock_Go.calls g106 t109 t110 t111 t112 t113 3 t114 t115 t116 t117 t118 t119 w _ ?side1 ?side2 A5.out).mono ?_); (case side1 => repeat (first | (with_reducible first | exact HI106.out | apply IsS55.alloc | apply IsS55.drewN | apply IsS55.drew | apply IsS55.set_0 | apply IsS55.set_1 | apply IsS55.set_2 | apply IsS55.set_3 | apply IsS55.set_4) | exact HI106.out)); (case side2 => repeat (first | (with_reducible first | exact HB.out | apply below_alloc | apply pw_below_drewN | apply below_drew1 | refine below_set ?_ (IsS55.ge HI106.out)) | exact HB.out)); rintro e w25 ⟨rfl, hi, hb, hk⟩; have n0_ := Aside0.mk (hb); have n1_ := Aside0.mk (hi); clear HB; clear HI106; have HB := n0_; have HI106 := n1_; clear n0_ n1_; (try clear hb); (try clear hb2); (try clear hk); (try clear hi)) | (go_at_call 11; (with_reducible refine (clock_Clock_Rest.calls g106 t115 t116 t117 t118 t119 t120 t121 t122 t123 t124 t125 w _ ?side1 ?side2 A7.out).mono ?_); (case side1 => repeat (first | (with_reducible first | exact HI106.out | apply IsS55.alloc | apply IsS55.drewN | apply IsS55.drew | apply IsS55.set_0 | apply IsS55.set_1 | apply IsS55.set_2 | apply IsS55.set_3 | apply IsS55.set_4) | exact HI106.out)); (case side2 => repeat (first | (with_reducible first | exact HB.out | apply below_alloc | apply pw_below_drewN | apply below_drew1 | refine below_set ?_ (IsS55.ge HI106.out)) | exact HB.out)); rintro e w26 ⟨rfl, hi, hb, hk⟩; have n0_ := Aside0.mk (hb); have n1_ := Aside0.mk (hi); clear HB; clear HI106; have HB := n0_; have HI106 := n1_; clear n0_ n1_; (try clear hb); (try clear hb2); (try clear hk); (try clear hi)))
          go_ret
          exact ⟨by first | rfl | (simp [errW_none, errW_some] <;> rfl) | (simp [*, errW_none, errW_some] <;> rfl), by repeat (first | (with_reducible first | exact HB.out | apply below_alloc | apply pw_below_drewN | apply below_drew1 | refine below_set ?_ (IsS55.ge HI106.out)) | exact HB.out)⟩
      · rw [if_neg c6] at H
        have c6b0 : (t114 == 14) = false := beq_eq_false_iff_ne.mpr c6
        have c6b1 : (t114 != 14) = true := bne_iff_ne.mpr c6
        obtain rfl := Option.some.inj H
        go_enter Try.func7, Try.ntmps7
        go_wp2_with (first | ((with_reducible refine gate_callee (f := 8) rfl ?_); refine goesL_ (some 5) rfl rfl Try.func8 (by kernel_rfl) rfl #[.int .u64 0, .int .u64 10, .agg #[.int .u64 3, .int .u64 2]] rfl (by (try simp only [List.map_toArray, List.map_cons, List.map_nil]); first | done | rfl | (simp only [List.length_drop, List.length_take]; rfl)) ?_; (with_reducible refine (clock_New.calls 0 10 3 2 t101 t102 t103 t104 t105 t107 w _ ?side1 A1.out).mono ?_); (case side1 => repeat (first | (with_reducible first | exact HB.out | apply below_alloc | apply pw_below_drewN | apply below_drew1) | exact HB.out)); rintro e w27 ⟨g106, rfl, hi, hb, hb2, hnew⟩; refine ⟨_, rfl, ?_⟩; have n0_ := Aside0.mk (hb); have n1_ := Aside0.mk (hi); clear HB; have HB := n0_; have HI106 := n1_; clear n0_ n1_; (try clear hb); (try clear hb2); (try clear hk); (try clear hi)) | (go_at_call 9; (with_reducible refine (clock_Clock_At.calls g106 t101 t102 t103 t104 t105 3 t108 t109 t110 t111 t112 t113 w _ ?side1 ?side2 A3.out).mono ?_); (case side1 => repeat (first | (with_reducible first | exact HI106.out | apply IsS55.alloc | apply IsS55.drewN | apply IsS55.drew | apply IsS55.set_0 | apply IsS55.set_1 | apply IsS55.set_2 | apply IsS55.set_3 | apply IsS55.set_4) | exact HI106.out)); (case side2 => repeat (first | (with_reducible first | exact HB.out | apply below_alloc | apply pw_below_drewN | apply below_drew1 | refine below_set ?_ (IsS55.ge HI106.out)) | exact HB.out)); rintro e w28 ⟨rfl, hi, hb, hk⟩; have n0_ := Aside0.mk (hb); have n1_ := Aside0.mk (hi); clear HB; clear HI106; have HB := n0_; have HI106 := n1_; clear n0_ n1_; (try clear hb); (try clear hb2); (try clear hk); (try clear hi)) | (go_at_call 10; (with_reducible refine (clock_Clock_Go.calls g106 t109 t110 t111 t112 t113 3 t114 t115 t116 t117 t118 t119 w _ ?side1 ?side2 A5.out).mono ?_); (case side1 => repeat (first | (with_reducible first | exact HI106.out | apply IsS55.alloc | apply IsS55.drewN | apply IsS55.drew | apply IsS55.set_0 | apply IsS55.set_1 | apply IsS55.set_2 | apply IsS55.set_3 | apply IsS55.set_4) | exact HI106.out)); (case side2 => repeat (first | (with_reducible first | exact HB.out | apply below_alloc | apply pw_below_drewN | apply below_drew1 | refine below_set ?_ (IsS55.ge HI106.out)) | exact HB.out)); rintro e w29 ⟨rfl, hi, hb, hk⟩; have n0_ := Aside0.mk (hb); have n1_ := Aside0.mk (hi); clear HB; clear HI106; have HB := n0_; have HI106 := n1_; clear n0_ n1_; (try clear hb); (try clear hb2); (try clear hk); (try clear hi)))
        go_ret
        exact ⟨by first | rfl | (simp [errW_none, errW_some] <;> rfl) | (simp [*, errW_none, errW_some] <;> rfl), by repeat (first | (with_reducible first | exact HB.out | apply below_alloc | apply pw_below_drewN | apply below_drew1 | refine below_set ?_ (IsS55.ge HI106.out)) | exact HB.out)⟩
    · rw [if_neg c4] at H
      have c4b0 : (t108 == 14) = false := beq_eq_false_iff_ne.mpr c4
      have c4b1 : (t108 != 14) = true := bne_iff_ne.mpr c4
      obtain rfl := Option.some.inj H
      go_enter Try.func7, Try.ntmps7
      go_wp2_with (first | ((with_reducible refine gate_callee (f := 8) rfl ?_); refine goesL_ (some 5) rfl rfl Try.func8 (by kernel_rfl) rfl #[.int .u64 0, .int .u64 10, .agg #[.int .u64 3, .int .u64 2]] rfl (by (try simp only [List.map_toArray, List.map_cons, List.map_nil]); first | done | rfl | (simp only [List.length_drop, List.length_take]; rfl)) ?_; (with_reducible refine (clock_New.calls 0 10 3 2 t101 t102 t103 t104 t105 t107 w _ ?side1 A1.out).mono ?_); (case side1 => repeat (first | (with_reducible first | exact HB.out | apply below_alloc | apply pw_below_drewN | apply below_drew1) | exact HB.out)); rintro e w30 ⟨g106, rfl, hi, hb, hb2, hnew⟩; refine ⟨_, rfl, ?_⟩; have n0_ := Aside0.mk (hb); have n1_ := Aside0.mk (hi); clear HB; have HB := n0_; have HI106 := n1_; clear n0_ n1_; (try clear hb); (try clear hb2); (try clear hk); (try clear hi)) | (go_at_call 9; (with_reducible refine (clock_Clock_At.calls g106 t101 t102 t103 t104 t105 3 t108 t109 t110 t111 t112 t113 w _ ?side1 ?side2 A3.out).mono ?_); (case side1 => repeat (first | (with_reducible first | exact HI106.out | apply IsS55.alloc | apply IsS55.drewN | apply IsS55.drew | apply IsS55.set_0 | apply IsS55.set_1 | apply IsS55.set_2 | apply IsS55.set_3 | apply IsS55.set_4) | exact HI106.out)); (case side2 => repeat (first | (with_reducible first | exact HB.out | apply below_alloc | apply pw_below_drewN | apply below_drew1 | refine below_set ?_ (IsS55.ge HI106.out)) | exact HB.out)); rintro e w31 ⟨rfl, hi, hb, hk⟩; have n0_ := Aside0.mk (hb); have n1_ := Aside0.mk (hi); clear HB; clear HI106; have HB := n0_; have HI106 := n1_; clear n0_ n1_; (try clear hb); (try clear hb2); (try clear hk); (try clear hi)))
      go_ret
      exact ⟨by first | rfl | (simp [errW_none, errW_some] <;> rfl) | (simp [*, errW_none, errW_some] <;> rfl), by repeat (first | (with_reducible first | exact HB.out | apply below_alloc | apply pw_below_drewN | apply below_drew1 | refine below_set ?_ (IsS55.ge HI106.out)) | exact HB.out)⟩
  · rw [if_neg c2] at H
    have c2b0 : (t107 == 0) = false := beq_eq_false_iff_ne.mpr c2
    have c2b1 : (t107 != 0) = true := bne_iff_ne.mpr c2
    obtain rfl := Option.some.inj H
    go_enter Try.func7, Try.ntmps7
    go_wp2_with (first | ((with_reducible refine gate_callee (f := 8) rfl ?_); refine goesL_ (some 5) rfl rfl Try.func8 (by kernel_rfl) rfl #[.int .u64 0, .int .u64 10, .agg #[.int .u64 3, .int .u64 2]] rfl (by (try simp only [List.map_toArray, List.map_cons, List.map_nil]); first | done | rfl | (simp only [List.length_drop, List.length_take]; rfl)) ?_; (with_reducible refine (clock_New.calls 0 10 3 2 t101 t102 t103 t104 t105 t107 w _ ?side1 A1.out).mono ?_); (case side1 => repeat (first | (with_reducible first | exact HB.out | apply below_alloc | apply pw_below_drewN | apply below_drew1) | exact HB.out)); rintro e w32 ⟨g106, rfl, hi, hb, hb2, hnew⟩; refine ⟨_, rfl, ?_⟩; have n0_ := Aside0.mk (hb); have n1_ := Aside0.mk (hi); clear HB; have HB := n0_; have HI106 := n1_; clear n0_ n1_; (try clear hb); (try clear hb2); (try clear hk); (try clear hi)))
    go_ret
    exact ⟨by first | rfl | (simp [errW_none, errW_some] <;> rfl) | (simp [*, errW_none, errW_some] <;> rfl), by repeat (first | (with_reducible first | exact HB.out | apply below_alloc | apply pw_below_drewN | apply below_drew1 | refine below_set ?_ (IsS55.ge HI106.out)) | exact HB.out)⟩

/-! ### tiklaw22_ClockSteps: function 3 -/
mutual
def tiklaw22_ClockSteps.j0 : Nat → Int → Int → List Int → Bool → Int → Int → Int → Int → Int → Int → Int → Int → Int → Int → Int → Int → Option (Bool)
  | 0, _, _, _, _, _, _, _, _, _, _, _, _, _, _, _, _ => none
  | k + 1, x0, x1, x3, x51, x139000, x139001, x146000, x146001, x146002, x146003, x146004, x153000, x153001, x153002, x153003, x153004 => if x51 = true then ((tiklaw22_first.f).bind fun t154 => (some t154)) else (tiklaw22_ClockSteps.l0 k x3 x1 x0 0 x139000 x139001 x146000 x146001 x146002 x146003 x146004 x153000 x153001 x153002 x153003 x153004)
def tiklaw22_ClockSteps.l0 : Nat → List Int → Int → Int → Int → Int → Int → Int → Int → Int → Int → Int → Int → Int → Int → Int → Int → Option (Bool)
  | 0, _, _, _, _, _, _, _, _, _, _, _, _, _, _, _, _ => none
  | k + 1, x3, x13, x14, x15, x139000, x139001, x146000, x146001, x146002, x146003, x146004, x153000, x153001, x153002, x153003, x153004 => if x15 < (x3.length : Int) then (if 0 ≤ x15 then (if (rd x3 x15) > 1073741824 then (tiklaw22_ClockSteps.j2 k x3 x13 x14 x15 true x139000 x139001 x146000 x146001 x146002 x146003 x146004 x153000 x153001 x153002 x153003 x153004) else (tiklaw22_ClockSteps.j2 k x3 x13 x14 x15 (decide (x14 > 1152921504606846976)) x139000 x139001 x146000 x146001 x146002 x146003 x146004 x153000 x153001 x153002 x153003 x153004)) else (none)) else ((tiklaw22_first.f).bind fun t176 => (if t176 = true then ((clock_Clock_At.f x153000 x153001 x153002 x153003 x153004 x14).bind fun bt177 => (if bt177.1 = x13 then ((clock_Clock_Go.f bt177.2.1 bt177.2.2.1 bt177.2.2.2.1 bt177.2.2.2.2.1 bt177.2.2.2.2.2 x14).bind fun bt183 => (if bt183.1 = x13 then ((clock_Clock_Rest.f bt183.2.1 bt183.2.2.1 bt183.2.2.2.1 bt183.2.2.2.2.1 bt183.2.2.2.2.2).bind fun bt189 => ((clock_Clock_Rest.f x146000 x146001 x146002 x146003 x146004).bind fun bt195 => (some (bt189.1 == bt195.1)))) else (some false))) else (some false))) else (some false)))
def tiklaw22_ClockSteps.j2 : Nat → List Int → Int → Int → Int → Bool → Int → Int → Int → Int → Int → Int → Int → Int → Int → Int → Int → Int → Option (Bool)
  | 0, _, _, _, _, _, _, _, _, _, _, _, _, _, _, _, _, _ => none
  | k + 1, x3, x13, x14, x15, x69, x139000, x139001, x146000, x146001, x146002, x146003, x146004, x153000, x153001, x153002, x153003, x153004 => if x69 = true then ((tiklaw22_first.f).bind fun t156 => (some t156)) else (if 0 ≤ x15 then (if x15 < (x3.length : Int) then ((clock_Clock_At.f x146000 x146001 x146002 x146003 x146004 (IntKind.u64.wrap (x14 + (rd x3 x15)))).bind fun bt158 => ((clock_Clock_Go.f bt158.2.1 bt158.2.2.1 bt158.2.2.2.1 bt158.2.2.2.2.1 bt158.2.2.2.2.2 (IntKind.u64.wrap (x14 + (rd x3 x15)))).bind fun bt164 => (if bt164.1 = bt158.1 then (if bt158.1 < x13 then (some false) else ((clock_Clock_Rest.f bt164.2.1 bt164.2.2.1 bt164.2.2.2.1 bt164.2.2.2.2.1 bt164.2.2.2.2.2).bind fun bt170 => (if bt170.1 ≥ x139001 then (some false) else (tiklaw22_ClockSteps.l0 k x3 bt158.1 (IntKind.u64.wrap (x14 + (rd x3 x15))) (wrap64 (x15 + 1)) x139000 x139001 bt170.2.1 bt170.2.2.1 bt170.2.2.2.1 bt170.2.2.2.2.1 bt170.2.2.2.2.2 x153000 x153001 x153002 x153003 x153004)))) else (some false)))) else (none)) else (none))
end
def tiklaw22_ClockSteps.f (k : Nat) (a0 : Int) (a1 : Int) (a2_0 : Int) (a2_1 : Int) (l3 : List Int) : Option (Bool) := (tiklaw22_first.f).bind fun t139 => (if t139 = true then ((clock_New.f a0 a1 a2_0 a2_1).bind fun bt140 => ((clock_New.f a0 a1 a2_0 a2_1).bind fun bt147 => (if false = true then (tiklaw22_ClockSteps.j0 k a0 a1 l3 true a2_0 a2_1 bt140.1 bt140.2.1 bt140.2.2.1 bt140.2.2.2.1 bt140.2.2.2.2.1 bt147.1 bt147.2.1 bt147.2.2.1 bt147.2.2.2.1 bt147.2.2.2.2.1) else (if bt140.2.2.2.2.2 = 0 then (if bt147.2.2.2.2.2 = 0 then (tiklaw22_ClockSteps.j0 k a0 a1 l3 (decide ((l3.length : Int) > 200)) a2_0 a2_1 bt140.1 bt140.2.1 bt140.2.2.1 bt140.2.2.2.1 bt140.2.2.2.2.1 bt147.1 bt147.2.1 bt147.2.2.1 bt147.2.2.2.1 bt147.2.2.2.2.1) else (tiklaw22_ClockSteps.j0 k a0 a1 l3 true a2_0 a2_1 bt140.1 bt140.2.1 bt140.2.2.1 bt140.2.2.2.1 bt140.2.2.2.2.1 bt147.1 bt147.2.1 bt147.2.2.1 bt147.2.2.2.1 bt147.2.2.2.2.1)) else (tiklaw22_ClockSteps.j0 k a0 a1 l3 true a2_0 a2_1 bt140.1 bt140.2.1 bt140.2.2.1 bt140.2.2.2.1 bt140.2.2.2.2.1 bt147.1 bt147.2.1 bt147.2.2.1 bt147.2.2.2.1 bt147.2.2.2.2.1))))) else (some false))
theorem tiklaw22_ClockSteps.mono_l : ∀ k, (∀ y0 y1 y2 y3 y4 y5 y6 y7 y8 y9 y10 y11 y12 y13 y14 y15, LeO (tiklaw22_ClockSteps.j0 k y0 y1 y2 y3 y4 y5 y6 y7 y8 y9 y10 y11 y12 y13 y14 y15) (tiklaw22_ClockSteps.j0 (k + 1) y0 y1 y2 y3 y4 y5 y6 y7 y8 y9 y10 y11 y12 y13 y14 y15)) ∧ (∀ y0 y1 y2 y3 y4 y5 y6 y7 y8 y9 y10 y11 y12 y13 y14 y15, LeO (tiklaw22_ClockSteps.l0 k y0 y1 y2 y3 y4 y5 y6 y7 y8 y9 y10 y11 y12 y13 y14 y15) (tiklaw22_ClockSteps.l0 (k + 1) y0 y1 y2 y3 y4 y5 y6 y7 y8 y9 y10 y11 y12 y13 y14 y15)) ∧ (∀ y0 y1 y2 y3 y4 y5 y6 y7 y8 y9 y10 y11 y12 y13 y14 y15 y16, LeO (tiklaw22_ClockSteps.j2 k y0 y1 y2 y3 y4 y5 y6 y7 y8 y9 y10 y11 y12 y13 y14 y15 y16) (tiklaw22_ClockSteps.j2 (k + 1) y0 y1 y2 y3 y4 y5 y6 y7 y8 y9 y10 y11 y12 y13 y14 y15 y16))
  | 0 => ⟨fun _ _ _ _ _ _ _ _ _ _ _ _ _ _ _ _ r h => by simp [tiklaw22_ClockSteps.j0] at h, fun _ _ _ _ _ _ _ _ _ _ _ _ _ _ _ _ r h => by simp [tiklaw22_ClockSteps.l0] at h, fun _ _ _ _ _ _ _ _ _ _ _ _ _ _ _ _ _ r h => by simp [tiklaw22_ClockSteps.j2] at h⟩
  | k + 1 => by
    obtain ⟨ih0, ih1, ih2⟩ := tiklaw22_ClockSteps.mono_l k
    refine ⟨?_, ?_, ?_⟩
    · intro y0 y1 y2 y3 y4 y5 y6 y7 y8 y9 y10 y11 y12 y13 y14 y15
      unfold tiklaw22_ClockSteps.j0
      repeat' first
      | (with_reducible exact ih0 _ _ _ _ _ _ _ _ _ _ _ _ _ _ _ _)
      | (with_reducible exact ih1 _ _ _ _ _ _ _ _ _ _ _ _ _ _ _ _)
      | (with_reducible exact ih2 _ _ _ _ _ _ _ _ _ _ _ _ _ _ _ _ _)
      | (with_reducible exact LeO.refl _)
      | (with_reducible exact LeO.none _)
      | (with_reducible refine LeO.ite ?_ ?_)
      | (with_reducible refine LeO.bind ?_ (fun _ => ?_))
      | exact ih0 _ _ _ _ _ _ _ _ _ _ _ _ _ _ _ _
      | exact ih1 _ _ _ _ _ _ _ _ _ _ _ _ _ _ _ _
      | exact ih2 _ _ _ _ _ _ _ _ _ _ _ _ _ _ _ _ _
      | exact LeO.none _
      | refine LeO.ite ?_ ?_
      | refine LeO.bind ?_ (fun _ => ?_)
    · intro y0 y1 y2 y3 y4 y5 y6 y7 y8 y9 y10 y11 y12 y13 y14 y15
      unfold tiklaw22_ClockSteps.l0
      repeat' first
      | (with_reducible exact ih0 _ _ _ _ _ _ _ _ _ _ _ _ _ _ _ _)
      | (with_reducible exact ih1 _ _ _ _ _ _ _ _ _ _ _ _ _ _ _ _)
      | (with_reducible exact ih2 _ _ _ _ _ _ _ _ _ _ _ _ _ _ _ _ _)
      | (with_reducible exact LeO.refl _)
      | (with_reducible exact LeO.none _)
      | (with_reducible refine LeO.ite ?_ ?_)
      | (with_reducible refine LeO.bind ?_ (fun _ => ?_))
      | exact ih0 _ _ _ _ _ _ _ _ _ _ _ _ _ _ _ _
      | exact ih1 _ _ _ _ _ _ _ _ _ _ _ _ _ _ _ _
      | exact ih2 _ _ _ _ _ _ _ _ _ _ _ _ _ _ _ _ _
      | exact LeO.none _
      | refine LeO.ite ?_ ?_
      | refine LeO.bind ?_ (fun _ => ?_)
    · intro y0 y1 y2 y3 y4 y5 y6 y7 y8 y9 y10 y11 y12 y13 y14 y15 y16
      unfold tiklaw22_ClockSteps.j2
      repeat' first
      | (with_reducible exact ih0 _ _ _ _ _ _ _ _ _ _ _ _ _ _ _ _)
      | (with_reducible exact ih1 _ _ _ _ _ _ _ _ _ _ _ _ _ _ _ _)
      | (with_reducible exact ih2 _ _ _ _ _ _ _ _ _ _ _ _ _ _ _ _ _)
      | (with_reducible exact LeO.refl _)
      | (with_reducible exact LeO.none _)
      | (with_reducible refine LeO.ite ?_ ?_)
      | (with_reducible refine LeO.bind ?_ (fun _ => ?_))
      | exact ih0 _ _ _ _ _ _ _ _ _ _ _ _ _ _ _ _
      | exact ih1 _ _ _ _ _ _ _ _ _ _ _ _ _ _ _ _
      | exact ih2 _ _ _ _ _ _ _ _ _ _ _ _ _ _ _ _ _
      | exact LeO.none _
      | refine LeO.ite ?_ ?_
      | refine LeO.bind ?_ (fun _ => ?_)
theorem tiklaw22_ClockSteps.mono : ∀ a0 a1 a2 a3 a4 k, LeO (tiklaw22_ClockSteps.f k a0 a1 a2 a3 a4) (tiklaw22_ClockSteps.f (k + 1) a0 a1 a2 a3 a4) := by
  intro a0 a1 a2 a3 a4 k
  obtain ⟨ih0, ih1, ih2⟩ := tiklaw22_ClockSteps.mono_l k
  unfold tiklaw22_ClockSteps.f
  repeat' first
      | (with_reducible exact ih0 _ _ _ _ _ _ _ _ _ _ _ _ _ _ _ _)
      | (with_reducible exact ih1 _ _ _ _ _ _ _ _ _ _ _ _ _ _ _ _)
      | (with_reducible exact ih2 _ _ _ _ _ _ _ _ _ _ _ _ _ _ _ _ _)
      | (with_reducible exact LeO.refl _)
      | (with_reducible exact LeO.none _)
      | (with_reducible refine LeO.ite ?_ ?_)
      | (with_reducible refine LeO.bind ?_ (fun _ => ?_))
      | exact ih0 _ _ _ _ _ _ _ _ _ _ _ _ _ _ _ _
      | exact ih1 _ _ _ _ _ _ _ _ _ _ _ _ _ _ _ _
      | exact ih2 _ _ _ _ _ _ _ _ _ _ _ _ _ _ _ _ _
      | exact LeO.none _
      | refine LeO.ite ?_ ?_
      | refine LeO.bind ?_ (fun _ => ?_)
def tiklaw22_ClockSteps.T16 : Bool × List (List Nat × List Nat) := (true, [([], []), ([], []), ([0, 1], [0, 1]), ([], []), ([2, 3], [2, 3]), ([4, 2], [4]), ([5], [5]), ([5], [5]), ([6, 7, 5], [5, 6, 7]), ([5, 8], [5, 8]), ([9, 5], [9]), ([10], [10]), ([11, 10, 10], [10, 11]), ([10], [10]), ([13, 10], [10, 13]), ([12, 14, 10], [10, 12, 14]), ([10, 15], [10, 15])])
def tiklaw22_ClockSteps.B16 : List Nat := [0, 0, 3, 0, 15, 31, 63, 63, 255, 511, 1023, 2047, 4095, 2047, 10239, 32767, 65535]
theorem tiklaw22_ClockSteps.tab16 : rtab .any (opsOf Try.f3 16) = tiklaw22_ClockSteps.T16 := by kernel_rfl
theorem tiklaw22_ClockSteps.bits16 : waitsOk tiklaw22_ClockSteps.T16.2 tiklaw22_ClockSteps.B16 = true := by kernel_rfl
set_option maxHeartbeats 8000000 in
set_option maxRecDepth 100000 in
theorem tiklaw22_ClockSteps.calls (k : Nat) (a0 : Int) (a1 : Int) (a2_0 : Int) (a2_1 : Int) (A3 : Option Addr) (c3 : Nat) (l3 : List Int) (r : Bool) (w : World) (hr3 : Kd.C (Kd.int .u64) w A3 l3.length l3) (hc3 : l3.length ≤ c3) (hr_ : Aside0 (r = true)) (h : tiklaw22_ClockSteps.f k a0 a1 a2_0 a2_1 l3 = some r) :
    Calls Try.prog 3 #[.int .u64 a0, .int .u64 a1, .agg #[.int .u64 a2_0, .int .u64 a2_1], .slice A3 l3.length c3] w fun e w' => e = .returned (.bool r) ∧ Below w.heap.size w w' := by
  have hu24 := Try.underlying24
  have HR3 := Aside0.mk hr3
  have HC3 := Aside0.mk hc3
  clear hr3 hc3
  have HB := Aside0.mk (Below.refl w.heap.size w)
  have H : ((tiklaw22_first.f).bind fun t139 => (if t139 = true then ((clock_New.f a0 a1 a2_0 a2_1).bind fun bt140 => ((clock_New.f a0 a1 a2_0 a2_1).bind fun bt147 => (if false = true then (tiklaw22_ClockSteps.j0 k a0 a1 l3 true a2_0 a2_1 bt140.1 bt140.2.1 bt140.2.2.1 bt140.2.2.2.1 bt140.2.2.2.2.1 bt147.1 bt147.2.1 bt147.2.2.1 bt147.2.2.2.1 bt147.2.2.2.2.1) else (if bt140.2.2.2.2.2 = 0 then (if bt147.2.2.2.2.2 = 0 then (tiklaw22_ClockSteps.j0 k a0 a1 l3 (decide ((l3.length : Int) > 200)) a2_0 a2_1 bt140.1 bt140.2.1 bt140.2.2.1 bt140.2.2.2.1 bt140.2.2.2.2.1 bt147.1 bt147.2.1 bt147.2.2.1 bt147.2.2.2.1 bt147.2.2.2.2.1) else (tiklaw22_ClockSteps.j0 k a0 a1 l3 true a2_0 a2_1 bt140.1 bt140.2.1 bt140.2.2.1 bt140.2.2.2.1 bt140.2.2.2.2.1 bt147.1 bt147.2.1 bt147.2.2.1 bt147.2.2.2.1 bt147.2.2.2.2.1)) else (tiklaw22_ClockSteps.j0 k a0 a1 l3 true a2_0 a2_1 bt140.1 bt140.2.1 bt140.2.2.1 bt140.2.2.2.1 bt140.2.2.2.2.1 bt147.1 bt147.2.1 bt147.2.2.1 bt147.2.2.2.1 bt147.2.2.2.2.1))))) else (some false))) = some r := h
  clear h
  replace H := Option.bind_eq_some_iff.mp H
  obtain ⟨t139, A50, H⟩ := H
  replace H : (if t139 = true then ((clock_New.f a0 a1 a2_0 a2_1).bind fun bt140 => ((clock_New.f a0 a1 a2_0 a2_1).bind fun bt147 => (if false = true then (tiklaw22_ClockSteps.j0 k a0 a1 l3 true a2_0 a2_1 bt140.1 bt140.2.1 bt140.2.2.1 bt140.2.2.2.1 bt140.2.2.2.2.1 bt147.1 bt147.2.1 bt147.2.2.1 bt147.2.2.2.1 bt147.2.2.2.2.1) else (if bt140.2.2.2.2.2 = 0 then (if bt147.2.2.2.2.2 = 0 then (tiklaw22_ClockSteps.j0 k a0 a1 l3 (decide ((l3.length : Int) > 200)) a2_0 a2_1 bt140.1 bt140.2.1 bt140.2.2.1 bt140.2.2.2.1 bt140.2.2.2.2.1 bt147.1 bt147.2.1 bt147.2.2.1 bt147.2.2.2.1 bt147.2.2.2.2.1) else (tiklaw22_ClockSteps.j0 k a0 a1 l3 true a2_0 a2_1 bt140.1 bt140.2.1 bt140.2.2.1 bt140.2.2.2.1 bt140.2.2.2.2.1 bt147.1 bt147.2.1 bt147.2.2.1 bt147.2.2.2.1 bt147.2.2.2.2.1)) else (tiklaw22_ClockSteps.j0 k a0 a1 l3 true a2_0 a2_1 bt140.1 bt140.2.1 bt140.2.2.1 bt140.2.2.2.1 bt140.2.2.2.2.1 bt147.1 bt147.2.1 bt147.2.2.1 bt147.2.2.2.1 bt147.2.2.2.2.1))))) else (some false)) = some r := H
  have A5 := Aside0.mk A50
  clear A50
  by_cases c6 : t139 = true
  · subst c6
    have H1 : ((clock_New.f a0 a1 a2_0 a2_1).bind fun bt140 => ((clock_New.f a0 a1 a2_0 a2_1).bind fun bt147 => (if false = true then (tiklaw22_ClockSteps.j0 k a0 a1 l3 true a2_0 a2_1 bt140.1 bt140.2.1 bt140.2.2.1 bt140.2.2.2.1 bt140.2.2.2.2.1 bt147.1 bt147.2.1 bt147.2.2.1 bt147.2.2.2.1 bt147.2.2.2.2.1) else (if bt140.2.2.2.2.2 = 0 then (if bt147.2.2.2.2.2 = 0 then (tiklaw22_ClockSteps.j0 k a0 a1 l3 (decide ((l3.length : Int) > 200)) a2_0 a2_1 bt140.1 bt140.2.1 bt140.2.2.1 bt140.2.2.2.1 bt140.2.2.2.2.1 bt147.1 bt147.2.1 bt147.2.2.1 bt147.2.2.2.1 bt147.2.2.2.2.1) else (tiklaw22_ClockSteps.j0 k a0 a1 l3 true a2_0 a2_1 bt140.1 bt140.2.1 bt140.2.2.1 bt140.2.2.2.1 bt140.2.2.2.2.1 bt147.1 bt147.2.1 bt147.2.2.1 bt147.2.2.2.1 bt147.2.2.2.2.1)) else (tiklaw22_ClockSteps.j0 k a0 a1 l3 true a2_0 a2_1 bt140.1 bt140.2.1 bt140.2.2.1 bt140.2.2.2.1 bt140.2.2.2.2.1 bt147.1 bt147.2.1 bt147.2.2.1 bt147.2.2.2.1 bt147.2.2.2.2.1))))) = some r := by rw [if_pos rfl] at H; exact H
    clear H
    have H := H1
    clear H1
    replace H := Option.bind_eq_some_iff.mp H
    obtain ⟨⟨t140, t141, t142, t143, t144, t146⟩, A70, H⟩ := H
    replace H : ((clock_New.f a0 a1 a2_0 a2_1).bind fun bt147 => (if false = true then (tiklaw22_ClockSteps.j0 k a0 a1 l3 true a2_0 a2_1 t140 t141 t142 t143 t144 bt147.1 bt147.2.1 bt147.2.2.1 bt147.2.2.2.1 bt147.2.2.2.2.1) else (if t146 = 0 then (if bt147.2.2.2.2.2 = 0 then (tiklaw22_ClockSteps.j0 k a0 a1 l3 (decide ((l3.length : Int) > 200)) a2_0 a2_1 t140 t141 t142 t143 t144 bt147.1 bt147.2.1 bt147.2.2.1 bt147.2.2.2.1 bt147.2.2.2.2.1) else (tiklaw22_ClockSteps.j0 k a0 a1 l3 true a2_0 a2_1 t140 t141 t142 t143 t144 bt147.1 bt147.2.1 bt147.2.2.1 bt147.2.2.2.1 bt147.2.2.2.2.1)) else (tiklaw22_ClockSteps.j0 k a0 a1 l3 true a2_0 a2_1 t140 t141 t142 t143 t144 bt147.1 bt147.2.1 bt147.2.2.1 bt147.2.2.2.1 bt147.2.2.2.2.1)))) = some r := H
    have A7 := Aside0.mk A70
    clear A70
    replace H := Option.bind_eq_some_iff.mp H
    obtain ⟨⟨t147, t148, t149, t150, t151, t153⟩, A80, H⟩ := H
    replace H : (if false = true then (tiklaw22_ClockSteps.j0 k a0 a1 l3 true a2_0 a2_1 t140 t141 t142 t143 t144 t147 t148 t149 t150 t151) else (if t146 = 0 then (if t153 = 0 then (tiklaw22_ClockSteps.j0 k a0 a1 l3 (decide ((l3.length : Int) > 200)) a2_0 a2_1 t140 t141 t142 t143 t144 t147 t148 t149 t150 t151) else (tiklaw22_ClockSteps.j0 k a0 a1 l3 true a2_0 a2_1 t140 t141 t142 t143 t144 t147 t148 t149 t150 t151)) else (tiklaw22_ClockSteps.j0 k a0 a1 l3 true a2_0 a2_1 t140 t141 t142 t143 t144 t147 t148 t149 t150 t151))) = some r := H
    have A8 := Aside0.mk A80
    clear A80
    have HC9 := Aside0.mk H
    clear H
    go_enter Try.func3, Try.ntmps3
    go_upto_region 5 with (first | ((with_reducible refine gate_dst (N := 6) rfl ?_); (try (refine gate_guard (by rfl) ?_; dsimp only)); refine box_event ?hg (N := 6) ?hd (cs := #[.int .u64 a2_0, .int .u64 a2_1]) (t := 24) ?hr ?_; (case hd => rfl); (case hg => rfl); (case hr => first | (go_simp; done) | (go_simp; rfl)); intro gb138 hg w10 hbox hb; have n0_ := Aside0.mk (below_step (by repeat (first | (with_reducible first | exact HB.out | apply below_alloc | apply pw_below_drewN | apply below_drew1) | exact HB.out)) hb); have n1_ := Aside0.mk (hbox); have n2_ := Aside0.mk ((by rw [hg]; exact (below_size (by repeat (first | (with_reducible first | exact HB.out | apply below_alloc | apply pw_below_drewN | apply below_drew1) | exact HB.out))) : w.heap.size ≤ gb138)); have n3_ := Aside0.mk ((by rw [hg]; exact (below_size (by repeat (first | (with_reducible first | exact HB.out | apply below_alloc | apply pw_below_drewN | apply below_drew1) | exact HB.out))) : w.heap.size ≤ gb138)); clear HB; have HB := n0_; have BK138 := n1_; have GW138 := n2_; have GE138 := n3_; clear n0_ n1_ n2_ n3_; clear hb hbox hg) | ((with_reducible refine gate_callee (f := 7) rfl ?_); refine goesL_ (some 17) rfl rfl Try.func7 (by kernel_rfl) rfl #[] rfl (by (try simp only [List.map_toArray, List.map_cons, List.map_nil]); first | done | rfl | (simp only [List.length_drop, List.length_take]; rfl)) ?_; (with_reducible refine (tiklaw22_first.calls  true _ A5.out).mono ?_); rintro e w11 ⟨rfl, hb⟩; refine ⟨_, rfl, ?_⟩; have n0_ := Aside0.mk (blk_below (g := gb138) (o := .cells #[.int .u64 a2_0, .int .u64 a2_1] 24 (0, 0)) (by (with_reducible repeat (first | refine blk_drewN ?_ _ | refine blk_drew ?_ | refine blk_alloc ?_ _)); exact BK138.out) hb); have n1_ := Aside0.mk (below_step (by repeat (first | (with_reducible first | exact HB.out | apply below_alloc | apply pw_below_drewN | apply below_drew1 | refine below_set ?_ GE138.out) | exact HB.out)) hb); clear BK138; clear HB; have BK138 := n0_; have HB := n1_; clear n0_ n1_; (try clear hb); (try clear hb2); (try clear hk); (try clear hi); have hcz12_0 : w11.cell? ⟨gb138, 0, none⟩ = some (.int .u64 a2_0) := (blk_cell BK138.out 0).trans rfl; have hcz12_1 : w11.cell? ⟨gb138, 1, none⟩ = some (.int .u64 a2_1) := (blk_cell BK138.out 1).trans rfl; have hfz12_0 := blk_frozen BK138.out 0; have hfz12_1 := blk_frozen BK138.out 1) | ((with_reducible refine gate_callee (f := 8) rfl ?_); refine goesL_ (some 23) rfl rfl Try.func8 (by kernel_rfl) rfl #[.int .u64 a0, .int .u64 a1, .agg #[.int .u64 a2_0, .int .u64 a2_1]] rfl (by (try simp only [List.map_toArray, List.map_cons, List.map_nil]); first | done | rfl | (simp only [List.length_drop, List.length_take]; rfl)) ?_; (with_reducible refine (clock_New.calls a0 a1 a2_0 a2_1 t140 t141 t142 t143 t144 t146 w _ ?side1 A7.out).mono ?_); (case side1 => repeat (first | (with_reducible first | exact HB.out | apply below_alloc | apply pw_below_drewN | apply below_drew1 | refine below_set ?_ GE138.out) | exact HB.out)); rintro e w13 ⟨g145, rfl, hi, hb, hb2, hnew⟩; refine ⟨_, rfl, ?_⟩; have n0_ := Aside0.mk (blk_below (g := gb138) (o := .cells #[.int .u64 a2_0, .int .u64 a2_1] 24 (0, 0)) (by (with_reducible repeat (first | refine blk_drewN ?_ _ | refine blk_drew ?_ | refine blk_alloc ?_ _)); exact BK138.out) hb2); have n1_ := Aside0.mk (hb); have n2_ := Aside0.mk (hi); have n3_ := Aside0.mk (IsS55.ne_blk hi (blk_below (g := gb138) (o := .cells #[.int .u64 a2_0, .int .u64 a2_1] 24 (0, 0)) (by (with_reducible repeat (first | refine blk_drewN ?_ _ | refine blk_drew ?_ | refine blk_alloc ?_ _)); exact BK138.out) hb2) (by decide)); have n4_ := Aside0.mk (Ne.symm (IsS55.ne_blk hi (blk_below (g := gb138) (o := .cells #[.int .u64 a2_0, .int .u64 a2_1] 24 (0, 0)) (by (with_reducible repeat (first | refine blk_drewN ?_ _ | refine blk_drew ?_ | refine blk_alloc ?_ _)); exact BK138.out) hb2) (by decide))); clear BK138; clear HB; have BK138 := n0_; have HB := n1_; have HI145 := n2_; have NB145_138 := n3_; have NB138_145 := n4_; clear n0_ n1_ n2_ n3_ n4_; (try clear hb); (try clear hb2); (try clear hk); (try clear hi); have hnb14 := NB138_145.out; have hnc14 := NB145_138.out; have hcz15_0 : w13.cell? ⟨gb138, 0, none⟩ = some (.int .u64 a2_0) := (blk_cell BK138.out 0).trans rfl; have hcz15_1 : w13.cell? ⟨gb138, 1, none⟩ = some (.int .u64 a2_1) := (blk_cell BK138.out 1).trans rfl; have hfz15_0 := blk_frozen BK138.out 0; have hfz15_1 := blk_frozen BK138.out 1) | ((with_reducible refine gate_callee (f := 8) rfl ?_); refine goesL_ (some 30) rfl rfl Try.func8 (by kernel_rfl) rfl #[.int .u64 a0, .int .u64 a1, .agg #[.int .u64 a2_0, .int .u64 a2_1]] rfl (by (try simp only [List.map_toArray, List.map_cons, List.map_nil]); first | done | rfl | (simp only [List.length_drop, List.length_take]; rfl)) ?_; (with_reducible refine (clock_New.calls a0 a1 a2_0 a2_1 t147 t148 t149 t150 t151 t153 w _ ?side1 A8.out).mono ?_); (case side1 => repeat (first | (with_reducible first | exact HB.out | apply below_alloc | apply pw_below_drewN | apply below_drew1 | refine below_set ?_ (IsS55.ge HI145.out) | refine below_set ?_ GE138.out) | exact HB.out)); rintro e w16 ⟨g152, rfl, hi, hb, hb2, hnew⟩; refine ⟨_, rfl, ?_⟩; have n0_ := Aside0.mk ((Nat.ne_of_lt (Nat.lt_of_lt_of_le (IsS55.lt (show IsS55 w _ g145 t140 t141 t142 t143 t144 from by repeat (first | (with_reducible first | exact HI145.out | apply IsS55.alloc | apply IsS55.drewN | apply IsS55.drew | apply IsS55.set_0 | apply IsS55.set_1 | apply IsS55.set_2 | apply IsS55.set_3 | apply IsS55.set_4 | refine IsS55.far ?_ NB145_138.out _) | exact HI145.out))) hnew) : g145 ≠ g152)); have n1_ := Aside0.mk ((Nat.ne_of_gt (Nat.lt_of_lt_of_le (IsS55.lt (show IsS55 w _ g145 t140 t141 t142 t143 t144 from by repeat (first | (with_reducible first | exact HI145.out | apply IsS55.alloc | apply IsS55.drewN | apply IsS55.drew | apply IsS55.set_0 | apply IsS55.set_1 | apply IsS55.set_2 | apply IsS55.set_3 | apply IsS55.set_4 | refine IsS55.far ?_ NB145_138.out _) | exact HI145.out))) hnew) : g152 ≠ g145)); have n2_ := Aside0.mk (blk_below (g := gb138) (o := .cells #[.int .u64 a2_0, .int .u64 a2_1] 24 (0, 0)) (by (with_reducible repeat (first | refine blk_drewN ?_ _ | refine blk_drew ?_ | refine blk_alloc ?_ _)); exact BK138.out) hb2); have n3_ := Aside0.mk (IsS55.below (by repeat (first | (with_reducible first | exact HI145.out | apply IsS55.alloc | apply IsS55.drewN | apply IsS55.drew | apply IsS55.set_0 | apply IsS55.set_1 | apply IsS55.set_2 | apply IsS55.set_3 | apply IsS55.set_4 | refine IsS55.far ?_ NB145_138.out _) | exact HI145.out)) hb2); have n4_ := Aside0.mk (hb); have n5_ := Aside0.mk (hi); have n6_ := Aside0.mk (IsS55.ne_blk hi (blk_below (g := gb138) (o := .cells #[.int .u64 a2_0, .int .u64 a2_1] 24 (0, 0)) (by (with_reducible repeat (first | refine blk_drewN ?_ _ | refine blk_drew ?_ | refine blk_alloc ?_ _)); exact BK138.out) hb2) (by decide)); have n7_ := Aside0.mk (Ne.symm (IsS55.ne_blk hi (blk_below (g := gb138) (o := .cells #[.int .u64 a2_0, .int .u64 a2_1] 24 (0, 0)) (by (with_reducible repeat (first | refine blk_drewN ?_ _ | refine blk_drew ?_ | refine blk_alloc ?_ _)); exact BK138.out) hb2) (by decide))); clear BK138; clear HI145; clear HB; have NB145_152 := n0_; have NB152_145 := n1_; have BK138 := n2_; have HI145 := n3_; have HB := n4_; have HI152 := n5_; have NB152_138 := n6_; have NB138_152 := n7_; clear n0_ n1_ n2_ n3_ n4_ n5_ n6_ n7_; (try clear hb); (try clear hb2); (try clear hk); (try clear hi)))
    (try simp only [Act.put, List.setIfInBounds_toArray, List.set_cons_zero, List.set_cons_succ])
    go_cut [51] (fun v51 wc => ∃ (kq : Nat) (x51_8 : Bool), v51 = .bool x51_8 ∧ Aside0 (tiklaw22_ClockSteps.j0 kq a0 a1 l3 x51_8 a2_0 a2_1 t140 t141 t142 t143 t144 t147 t148 t149 t150 t151 = some r) ∧ Aside0 (kq ≤ k) ∧ Aside0 (wc.heap[gb138]? = some (.cells #[.int .u64 a2_0, .int .u64 a2_1] 24 (0, 0))) ∧ Aside0 (IsS55 w wc g145 t140 t141 t142 t143 t144) ∧ Aside0 (IsS55 w wc g152 t147 t148 t149 t150 t151) ∧ Aside0 (Below w.heap.size w wc))
    case first =>
      have H := HC9.out
      clear HC9
      have H1 : (if t146 = 0 then (if t153 = 0 then (tiklaw22_ClockSteps.j0 k a0 a1 l3 (decide ((l3.length : Int) > 200)) a2_0 a2_1 t140 t141 t142 t143 t144 t147 t148 t149 t150 t151) else (tiklaw22_ClockSteps.j0 k a0 a1 l3 true a2_0 a2_1 t140 t141 t142 t143 t144 t147 t148 t149 t150 t151)) else (tiklaw22_ClockSteps.j0 k a0 a1 l3 true a2_0 a2_1 t140 t141 t142 t143 t144 t147 t148 t149 t150 t151)) = some r := by rw [if_neg (show ¬ (false = true) by decide)] at H; exact H
      clear H
      have H := H1
      clear H1
      by_cases c17 : t146 = 0
      · rw [if_pos c17] at H
        have c17b0 : (t146 == 0) = true := beq_iff_eq.mpr c17
        have c17b1 : (t146 != 0) = false := bne_eq_false_iff_eq.mpr c17
        clear c17
        (first | rw [c17b0] | (simp only [i64_w, i32_w]; rw [c17b0]) | skip)
        by_cases c18 : t153 = 0
        · rw [if_pos c18] at H
          have c18b0 : (t153 == 0) = true := beq_iff_eq.mpr c18
          have c18b1 : (t153 != 0) = false := bne_eq_false_iff_eq.mpr c18
          clear c18
          have H' := Aside0.mk H
          clear H
          go_wp2
          go_meet
          case rel => exact ⟨_, (decide ((l3.length : Int) > 200)), (by first | rfl | (simp; done) | (simp [*]; done)), H', ⟨by first | omega | exact Nat.le_refl _⟩, ⟨by (with_reducible repeat (first | refine blk_drewN ?_ _ | refine blk_drew ?_ | refine blk_alloc ?_ _)); exact BK138.out⟩, ⟨by repeat (first | (with_reducible first | exact HI145.out | apply IsS55.alloc | apply IsS55.drewN | apply IsS55.drew | apply IsS55.set_0 | apply IsS55.set_1 | apply IsS55.set_2 | apply IsS55.set_3 | apply IsS55.set_4 | refine IsS55.far ?_ NB145_138.out _) | exact HI145.out)⟩, ⟨by repeat (first | (with_reducible first | exact HI152.out | apply IsS55.alloc | apply IsS55.drewN | apply IsS55.drew | apply IsS55.set_0 | apply IsS55.set_1 | apply IsS55.set_2 | apply IsS55.set_3 | apply IsS55.set_4 | refine IsS55.far ?_ NB152_138.out _) | exact HI152.out)⟩, ⟨by repeat (first | (with_reducible first | exact HB.out | apply below_alloc | apply pw_below_drewN | apply below_drew1 | refine below_set ?_ (IsS55.ge HI145.out) | refine below_set ?_ (IsS55.ge HI152.out) | refine below_set ?_ GE138.out) | exact HB.out)⟩⟩
        · rw [if_neg c18] at H
          have c18b0 : (t153 == 0) = false := beq_eq_false_iff_ne.mpr c18
          have c18b1 : (t153 != 0) = true := bne_iff_ne.mpr c18
          have H' := Aside0.mk H
          clear H
          go_wp2
          go_meet
          case rel => exact ⟨_, (true), (by first | rfl | (simp; done) | (simp [*]; done)), H', ⟨by first | omega | exact Nat.le_refl _⟩, ⟨by (with_reducible repeat (first | refine blk_drewN ?_ _ | refine blk_drew ?_ | refine blk_alloc ?_ _)); exact BK138.out⟩, ⟨by repeat (first | (with_reducible first | exact HI145.out | apply IsS55.alloc | apply IsS55.drewN | apply IsS55.drew | apply IsS55.set_0 | apply IsS55.set_1 | apply IsS55.set_2 | apply IsS55.set_3 | apply IsS55.set_4 | refine IsS55.far ?_ NB145_138.out _) | exact HI145.out)⟩, ⟨by repeat (first | (with_reducible first | exact HI152.out | apply IsS55.alloc | apply IsS55.drewN | apply IsS55.drew | apply IsS55.set_0 | apply IsS55.set_1 | apply IsS55.set_2 | apply IsS55.set_3 | apply IsS55.set_4 | refine IsS55.far ?_ NB152_138.out _) | exact HI152.out)⟩, ⟨by repeat (first | (with_reducible first | exact HB.out | apply below_alloc | apply pw_below_drewN | apply below_drew1 | refine below_set ?_ (IsS55.ge HI145.out) | refine below_set ?_ (IsS55.ge HI152.out) | refine below_set ?_ GE138.out) | exact HB.out)⟩⟩
      · rw [if_neg c17] at H
        have c17b0 : (t146 == 0) = false := beq_eq_false_iff_ne.mpr c17
        have c17b1 : (t146 != 0) = true := bne_iff_ne.mpr c17
        (first | rw [c17b0] | (simp only [i64_w, i32_w]; rw [c17b0]) | skip)
        have H' := Aside0.mk H
        clear H
        go_wp2
        go_meet
        case rel => exact ⟨_, (true), (by first | rfl | (simp; done) | (simp [*]; done)), H', ⟨by first | omega | exact Nat.le_refl _⟩, ⟨by (with_reducible repeat (first | refine blk_drewN ?_ _ | refine blk_drew ?_ | refine blk_alloc ?_ _)); exact BK138.out⟩, ⟨by repeat (first | (with_reducible first | exact HI145.out | apply IsS55.alloc | apply IsS55.drewN | apply IsS55.drew | apply IsS55.set_0 | apply IsS55.set_1 | apply IsS55.set_2 | apply IsS55.set_3 | apply IsS55.set_4 | refine IsS55.far ?_ NB145_138.out _) | exact HI145.out)⟩, ⟨by repeat (first | (with_reducible first | exact HI152.out | apply IsS55.alloc | apply IsS55.drewN | apply IsS55.drew | apply IsS55.set_0 | apply IsS55.set_1 | apply IsS55.set_2 | apply IsS55.set_3 | apply IsS55.set_4 | refine IsS55.far ?_ NB152_138.out _) | exact HI152.out)⟩, ⟨by repeat (first | (with_reducible first | exact HB.out | apply below_alloc | apply pw_below_drewN | apply below_drew1 | refine below_set ?_ (IsS55.ge HI145.out) | refine below_set ?_ (IsS55.ge HI152.out) | refine below_set ?_ GE138.out) | exact HB.out)⟩⟩
    case rest =>
      clear HC9
      try clear c1
      try clear p2
      try clear c3
      try clear c6
      try clear c7
      try clear c8
      try clear c14
      try clear c17
      try clear c17b0
      try clear c17b1
      try clear c18
      try clear c18b0
      try clear c18b1
      try clear hcz12_0
      try clear hcz12_1
      try clear hcz15_0
      try clear hcz15_1
      try clear hfz12_0
      try clear hfz12_1
      try clear hfz15_0
      try clear hfz15_1
      obtain ⟨kq, x51_8, rfl, HA, HJ8, BK138, HI145, HI152, HB⟩ := hcut
      cases kq with
      | zero => exact absurd HA.out (by simp [tiklaw22_ClockSteps.j0])
      | succ kj8 =>
        have H := HA.out
        clear HA
        simp only [tiklaw22_ClockSteps.j0] at H
        by_cases c19 : x51_8 = true
        · subst c19
          have H1 : ((tiklaw22_first.f).bind fun t154 => (some t154)) = some r := by rw [if_pos rfl] at H; exact H
          clear H
          have H := H1
          clear H1
          replace H := Option.bind_eq_some_iff.mp H
          obtain ⟨t154, A200, H⟩ := H
          replace H : (some t154) = some r := H
          have A20 := Aside0.mk A200
          clear A200
          obtain rfl := Option.some.inj H
          go_wp2_with (first | ((with_reducible refine gate_callee (f := 7) rfl ?_); refine goesL_ (some 52) rfl rfl Try.func7 (by kernel_rfl) rfl #[] rfl (by (try simp only [List.map_toArray, List.map_cons, List.map_nil]); first | done | rfl | (simp only [List.length_drop, List.length_take]; rfl)) ?_; (with_reducible refine (tiklaw22_first.calls  t154 _ A20.out).mono ?_); rintro e w21 ⟨rfl, hb⟩; refine ⟨_, rfl, ?_⟩; have n0_ := Aside0.mk (blk_below (g := gb138) (o := .cells #[.int .u64 a2_0, .int .u64 a2_1] 24 (0, 0)) (by (with_reducible repeat (first | refine blk_drewN ?_ _ | refine blk_drew ?_ | refine blk_alloc ?_ _)); exact BK138.out) hb); have n1_ := Aside0.mk (IsS55.below (by repeat (first | (with_reducible first | exact HI145.out | apply IsS55.alloc | apply IsS55.drewN | apply IsS55.drew | apply IsS55.set_0 | apply IsS55.set_1 | apply IsS55.set_2 | apply IsS55.set_3 | apply IsS55.set_4 | refine IsS55.far ?_ NB145_138.out _) | exact HI145.out)) hb); have n2_ := Aside0.mk (IsS55.below (by repeat (first | (with_reducible first | exact HI152.out | apply IsS55.alloc | apply IsS55.drewN | apply IsS55.drew | apply IsS55.set_0 | apply IsS55.set_1 | apply IsS55.set_2 | apply IsS55.set_3 | apply IsS55.set_4 | refine IsS55.far ?_ NB152_138.out _) | exact HI152.out)) hb); have n3_ := Aside0.mk (below_step (by repeat (first | (with_reducible first | exact HB.out | apply below_alloc | apply pw_below_drewN | apply below_drew1 | refine below_set ?_ (IsS55.ge HI145.out) | refine below_set ?_ (IsS55.ge HI152.out) | refine below_set ?_ GE138.out) | exact HB.out)) hb); clear BK138; clear HI145; clear HI152; clear HB; have BK138 := n0_; have HI145 := n1_; have HI152 := n2_; have HB := n3_; clear n0_ n1_ n2_ n3_; (try clear hb); (try clear hb2); (try clear hk); (try clear hi)))
          go_ret
          exact ⟨by first | rfl | (simp [errW_none, errW_some] <;> rfl) | (simp [*, errW_none, errW_some] <;> rfl), by repeat (first | (with_reducible first | exact HB.out | apply below_alloc | apply pw_below_drewN | apply below_drew1 | refine below_set ?_ (IsS55.ge HI145.out) | refine below_set ?_ (IsS55.ge HI152.out) | refine below_set ?_ GE138.out) | exact HB.out)⟩
        · replace c19 := Bool.eq_false_iff.mpr c19
          subst c19
          have H1 : (tiklaw22_ClockSteps.l0 kj8 l3 a1 a0 0 a2_0 a2_1 t140 t141 t142 t143 t144 t147 t148 t149 t150 t151) = some r := by rw [if_neg (show ¬ (false = true) by decide)] at H; exact H
          clear H
          have H := H1
          clear H1
          have H' := Aside0.mk H
          clear H
          go_wp2
          go_loopg [13, 14, 15] kj8 (fun kq v13 v14 v15 w' => ∃ (x13_2 : Int) (x14_2 : Int) (x15_2 : Int) (x146000_2 : Int) (x146001_2 : Int) (x146002_2 : Int) (x146003_2 : Int) (x146004_2 : Int), v13 = .int .u64 x13_2 ∧ v14 = .int .u64 x14_2 ∧ v15 = .int .i64 x15_2 ∧ Aside0 (tiklaw22_ClockSteps.l0 kq l3 x13_2 x14_2 x15_2 a2_0 a2_1 x146000_2 x146001_2 x146002_2 x146003_2 x146004_2 t147 t148 t149 t150 t151 = some r) ∧ Aside0 (kq ≤ kj8) ∧ Aside0 (w'.heap[gb138]? = some (.cells #[.int .u64 a2_0, .int .u64 a2_1] 24 (0, 0))) ∧ Aside0 (IsS55 w w' g145 x146000_2 x146001_2 x146002_2 x146003_2 x146004_2) ∧ Aside0 (IsS55 w w' g152 t147 t148 t149 t150 t151) ∧ Aside0 (Below w.heap.size w w'))
          case atStart => exact ⟨(a1), (a0), (0), (t140), (t141), (t142), (t143), (t144), (by first | rfl | (simp; done) | (simp [*]; done)), (by first | rfl | (simp; done) | (simp [*]; done)), (by first | rfl | (simp; done) | (simp [*]; done)), H', ⟨Nat.le_refl _⟩, ⟨by (with_reducible repeat (first | refine blk_drewN ?_ _ | refine blk_drew ?_ | refine blk_alloc ?_ _)); exact BK138.out⟩, ⟨by repeat (first | (with_reducible first | exact HI145.out | apply IsS55.alloc | apply IsS55.drewN | apply IsS55.drew | apply IsS55.set_0 | apply IsS55.set_1 | apply IsS55.set_2 | apply IsS55.set_3 | apply IsS55.set_4 | refine IsS55.far ?_ NB145_138.out _) | exact HI145.out)⟩, ⟨by repeat (first | (with_reducible first | exact HI152.out | apply IsS55.alloc | apply IsS55.drewN | apply IsS55.drew | apply IsS55.set_0 | apply IsS55.set_1 | apply IsS55.set_2 | apply IsS55.set_3 | apply IsS55.set_4 | refine IsS55.far ?_ NB152_138.out _) | exact HI152.out)⟩, ⟨by repeat (first | (with_reducible first | exact HB.out | apply below_alloc | apply pw_below_drewN | apply below_drew1 | refine below_set ?_ (IsS55.ge HI145.out) | refine below_set ?_ (IsS55.ge HI152.out) | refine below_set ?_ GE138.out) | exact HB.out)⟩⟩
          case round =>
            clear H'
            try clear c1
            try clear p2
            try clear c3
            try clear c6
            try clear c7
            try clear c8
            try clear c14
            try clear c17
            try clear c17b0
            try clear c17b1
            try clear c18
            try clear c18b0
            try clear c18b1
            try clear c19
            try clear hcz12_0
            try clear hcz12_1
            try clear hcz15_0
            try clear hcz15_1
            try clear hfz12_0
            try clear hfz12_1
            try clear hfz15_0
            try clear hfz15_1
            try clear p2
            obtain ⟨x13_2, x14_2, x15_2, x146000_2, x146001_2, x146002_2, x146003_2, x146004_2, rfl, rfl, rfl, HA, HK2, BK138, HI145, HI152, HB⟩ := hrel
            cases gk with
            | zero => exact absurd HA.out (by simp [tiklaw22_ClockSteps.l0])
            | succ k2 =>
              have H := HA.out
              clear HA
              simp only [tiklaw22_ClockSteps.l0] at H
              by_cases c22 : x15_2 < (l3.length : Int)
              · rw [if_pos c22] at H
                have c22b0 : decide (x15_2 < (l3.length : Int)) = true := decide_eq_true c22
                clear c22
                have HC23 := Aside0.mk H
                clear H
                go_upto_region 12 with (fail)
                go_cut [69] (fun v69 wc => ∃ (kq : Nat) (x69_22 : Bool), v69 = .bool x69_22 ∧ Aside0 (tiklaw22_ClockSteps.j2 kq l3 x13_2 x14_2 x15_2 x69_22 a2_0 a2_1 x146000_2 x146001_2 x146002_2 x146003_2 x146004_2 t147 t148 t149 t150 t151 = some r) ∧ Aside0 (kq ≤ k2) ∧ Aside0 (wc.heap[gb138]? = some (.cells #[.int .u64 a2_0, .int .u64 a2_1] 24 (0, 0))) ∧ Aside0 (IsS55 w wc g145 x146000_2 x146001_2 x146002_2 x146003_2 x146004_2) ∧ Aside0 (IsS55 w wc g152 t147 t148 t149 t150 t151) ∧ Aside0 (Below w.heap.size w wc))
                case first =>
                  have H := HC23.out
                  clear HC23
                  by_cases c24 : 0 ≤ x15_2
                  · rw [if_pos c24] at H
                    have c24b0 : decide (0 ≤ x15_2) = true := decide_eq_true c24
                    clear c24
                    (first | rw [c24b0] | (simp only [i64_w, i32_w]; rw [c24b0]) | skip)
                    by_cases c25 : (rd l3 x15_2) > 1073741824
                    · rw [if_pos c25] at H
                      have c25b0 : decide (1073741824 < (rd l3 x15_2)) = true := decide_eq_true c25
                      clear c25
                      have H' := Aside0.mk H
                      clear H
                      have p155 : 0 ≤ (x15_2 : Int) := of_decide_eq_true (by first | (with_reducible assumption) | assumption)
                      have q155 : x15_2 < (l3.length : Int) := of_decide_eq_true (by first | (with_reducible assumption) | assumption)
                      obtain ⟨ad155, e155, hx155_0⟩ := Kd.at_int HR3.out x15_2 p155 q155
                      cases e155
                      replace hx155_0 := (HB.out.cell (World.block_lt_of_cell? w _ hx155_0)).trans hx155_0
                      replace p155 := eq_true p155
                      replace q155 := eq_true q155
                      go_wp2
                      go_meet
                      case rel => exact ⟨_, (true), (by first | rfl | (simp; done) | (simp [*]; done)), H', ⟨by have := HJ8.out; have := HK2.out; first | omega | exact Nat.le_refl _⟩, ⟨by (with_reducible repeat (first | refine blk_drewN ?_ _ | refine blk_drew ?_ | refine blk_alloc ?_ _)); exact BK138.out⟩, ⟨by repeat (first | (with_reducible first | exact HI145.out | apply IsS55.alloc | apply IsS55.drewN | apply IsS55.drew | apply IsS55.set_0 | apply IsS55.set_1 | apply IsS55.set_2 | apply IsS55.set_3 | apply IsS55.set_4 | refine IsS55.far ?_ NB145_138.out _) | exact HI145.out)⟩, ⟨by repeat (first | (with_reducible first | exact HI152.out | apply IsS55.alloc | apply IsS55.drewN | apply IsS55.drew | apply IsS55.set_0 | apply IsS55.set_1 | apply IsS55.set_2 | apply IsS55.set_3 | apply IsS55.set_4 | refine IsS55.far ?_ NB152_138.out _) | exact HI152.out)⟩, ⟨by repeat (first | (with_reducible first | exact HB.out | apply below_alloc | apply pw_below_drewN | apply below_drew1 | refine below_set ?_ (IsS55.ge HI145.out) | refine below_set ?_ (IsS55.ge HI152.out) | refine below_set ?_ GE138.out) | exact HB.out)⟩⟩
                    · rw [if_neg c25] at H
                      have c25b0 : decide (1073741824 < (rd l3 x15_2)) = false := decide_eq_false c25
                      clear c25
                      have H' := Aside0.mk H
                      clear H
                      have p155 : 0 ≤ (x15_2 : Int) := of_decide_eq_true (by first | (with_reducible assumption) | assumption)
                      have q155 : x15_2 < (l3.length : Int) := of_decide_eq_true (by first | (with_reducible assumption) | assumption)
                      obtain ⟨ad155, e155, hx155_0⟩ := Kd.at_int HR3.out x15_2 p155 q155
                      cases e155
                      replace hx155_0 := (HB.out.cell (World.block_lt_of_cell? w _ hx155_0)).trans hx155_0
                      replace p155 := eq_true p155
                      replace q155 := eq_true q155
                      go_wp2
                      go_meet
                      case rel => exact ⟨_, (decide (x14_2 > 1152921504606846976)), (by first | rfl | (simp; done) | (simp [*]; done)), H', ⟨by have := HJ8.out; have := HK2.out; first | omega | exact Nat.le_refl _⟩, ⟨by (with_reducible repeat (first | refine blk_drewN ?_ _ | refine blk_drew ?_ | refine blk_alloc ?_ _)); exact BK138.out⟩, ⟨by repeat (first | (with_reducible first | exact HI145.out | apply IsS55.alloc | apply IsS55.drewN | apply IsS55.drew | apply IsS55.set_0 | apply IsS55.set_1 | apply IsS55.set_2 | apply IsS55.set_3 | apply IsS55.set_4 | refine IsS55.far ?_ NB145_138.out _) | exact HI145.out)⟩, ⟨by repeat (first | (with_reducible first | exact HI152.out | apply IsS55.alloc | apply IsS55.drewN | apply IsS55.drew | apply IsS55.set_0 | apply IsS55.set_1 | apply IsS55.set_2 | apply IsS55.set_3 | apply IsS55.set_4 | refine IsS55.far ?_ NB152_138.out _) | exact HI152.out)⟩, ⟨by repeat (first | (with_reducible first | exact HB.out | apply below_alloc | apply pw_below_drewN | apply below_drew1 | refine below_set ?_ (IsS55.ge HI145.out) | refine below_set ?_ (IsS55.ge HI152.out) | refine below_set ?_ GE138.out) | exact HB.out)⟩⟩
                  · rw [if_neg c24] at H
                    exact absurd H (by simp)
                case rest =>
                  clear HC23
                  try clear c1
                  try clear p1
                  try clear q1
                  try clear hx1
                  try clear c2
                  try clear p2
                  try clear c3
                  try clear c6
                  try clear c7
                  try clear c8
                  try clear c14
                  try clear p15
                  try clear q15
                  try clear hx15
                  try clear c17
                  try clear c17b0
                  try clear c17b1
                  try clear c18
                  try clear c18b0
                  try clear c18b1
                  try clear c19
                  try clear c22
                  try clear c22b0
                  try clear c24
                  try clear c24b0
                  try clear c25
                  try clear c25b0
                  try clear hcz12_0
                  try clear hcz12_1
                  try clear hcz15_0
                  try clear hcz15_1
                  try clear hfz12_0
                  try clear hfz12_1
                  try clear hfz15_0
                  try clear hfz15_1
                  try clear hx155_0
                  try clear p155
                  try clear p2
                  try clear q155
                  obtain ⟨kq, x69_22, rfl, HA, HJ22, BK138, HI145, HI152, HB⟩ := hcut
                  cases kq with
                  | zero => exact absurd HA.out (by simp [tiklaw22_ClockSteps.j2])
                  | succ kj22 =>
                    have H := HA.out
                    clear HA
                    simp only [tiklaw22_ClockSteps.j2] at H
                    by_cases c26 : x69_22 = true
                    · subst c26
                      have H1 : ((tiklaw22_first.f).bind fun t156 => (some t156)) = some r := by rw [if_pos rfl] at H; exact H
                      clear H
                      have H := H1
                      clear H1
                      replace H := Option.bind_eq_some_iff.mp H
                      obtain ⟨t156, A270, H⟩ := H
                      replace H : (some t156) = some r := H
                      have A27 := Aside0.mk A270
                      clear A270
                      obtain rfl := Option.some.inj H
                      go_wp2_with (first | ((with_reducible refine gate_callee (f := 7) rfl ?_); refine goesL_ (some 70) rfl rfl Try.func7 (by kernel_rfl) rfl #[] rfl (by (try simp only [List.map_toArray, List.map_cons, List.map_nil]); first | done | rfl | (simp only [List.length_drop, List.length_take]; rfl)) ?_; (with_reducible refine (tiklaw22_first.calls  t156 _ A27.out).mono ?_); rintro e w28 ⟨rfl, hb⟩; refine ⟨_, rfl, ?_⟩; have n0_ := Aside0.mk (blk_below (g := gb138) (o := .cells #[.int .u64 a2_0, .int .u64 a2_1] 24 (0, 0)) (by (with_reducible repeat (first | refine blk_drewN ?_ _ | refine blk_drew ?_ | refine blk_alloc ?_ _)); exact BK138.out) hb); have n1_ := Aside0.mk (IsS55.below (by repeat (first | (with_reducible first | exact HI145.out | apply IsS55.alloc | apply IsS55.drewN | apply IsS55.drew | apply IsS55.set_0 | apply IsS55.set_1 | apply IsS55.set_2 | apply IsS55.set_3 | apply IsS55.set_4 | refine IsS55.far ?_ NB145_138.out _) | exact HI145.out)) hb); have n2_ := Aside0.mk (IsS55.below (by repeat (first | (with_reducible first | exact HI152.out | apply IsS55.alloc | apply IsS55.drewN | apply IsS55.drew | apply IsS55.set_0 | apply IsS55.set_1 | apply IsS55.set_2 | apply IsS55.set_3 | apply IsS55.set_4 | refine IsS55.far ?_ NB152_138.out _) | exact HI152.out)) hb); have n3_ := Aside0.mk (below_step (by repeat (first | (with_reducible first | exact HB.out | apply below_alloc | apply pw_below_drewN | apply below_drew1 | refine below_set ?_ (IsS55.ge HI145.out) | refine below_set ?_ (IsS55.ge HI152.out) | refine below_set ?_ GE138.out) | exact HB.out)) hb); clear BK138; clear HI145; clear HI152; clear HB; have BK138 := n0_; have HI145 := n1_; have HI152 := n2_; have HB := n3_; clear n0_ n1_ n2_ n3_; (try clear hb); (try clear hb2); (try clear hk); (try clear hi)))
                      go_ret
                      exact ⟨by first | rfl | (simp [errW_none, errW_some] <;> rfl) | (simp [*, errW_none, errW_some] <;> rfl), by repeat (first | (with_reducible first | exact HB.out | apply below_alloc | apply pw_below_drewN | apply below_drew1 | refine below_set ?_ (IsS55.ge HI145.out) | refine below_set ?_ (IsS55.ge HI152.out) | refine below_set ?_ GE138.out) | exact HB.out)⟩
                    · replace c26 := Bool.eq_false_iff.mpr c26
                      subst c26
                      have H1 : (if 0 ≤ x15_2 then (if x15_2 < (l3.length : Int) then ((clock_Clock_At.f x146000_2 x146001_2 x146002_2 x146003_2 x146004_2 (IntKind.u64.wrap (x14_2 + (rd l3 x15_2)))).bind fun bt158 => ((clock_Clock_Go.f bt158.2.1 bt158.2.2.1 bt158.2.2.2.1 bt158.2.2.2.2.1 bt158.2.2.2.2.2 (IntKind.u64.wrap (x14_2 + (rd l3 x15_2)))).bind fun bt164 => (if bt164.1 = bt158.1 then (if bt158.1 < x13_2 then (some false) else ((clock_Clock_Rest.f bt164.2.1 bt164.2.2.1 bt164.2.2.2.1 bt164.2.2.2.2.1 bt164.2.2.2.2.2).bind fun bt170 => (if bt170.1 ≥ a2_1 then (some false) else (tiklaw22_ClockSteps.l0 kj22 l3 bt158.1 (IntKind.u64.wrap (x14_2 + (rd l3 x15_2))) (wrap64 (x15_2 + 1)) a2_0 a2_1 bt170.2.1 bt170.2.2.1 bt170.2.2.2.1 bt170.2.2.2.2.1 bt170.2.2.2.2.2 t147 t148 t149 t150 t151)))) else (some false)))) else (none)) else (none)) = some r := by rw [if_neg (show ¬ (false = true) by decide)] at H; exact H
                      clear H
                      have H := H1
                      clear H1
                      by_cases c29 : 0 ≤ x15_2
                      · rw [if_pos c29] at H
                        have c29b0 : decide (0 ≤ x15_2) = true := decide_eq_true c29
                        clear c29
                        by_cases c30 : x15_2 < (l3.length : Int)
                        · rw [if_pos c30] at H
                          have c30b0 : decide (x15_2 < (l3.length : Int)) = true := decide_eq_true c30
                          clear c30
                          replace H := Option.bind_eq_some_iff.mp H
                          obtain ⟨⟨t158, t159, t160, t161, t162, t163⟩, A310, H⟩ := H
                          replace H : ((clock_Clock_Go.f t159 t160 t161 t162 t163 (IntKind.u64.wrap (x14_2 + (rd l3 x15_2)))).bind fun bt164 => (if bt164.1 = t158 then (if t158 < x13_2 then (some false) else ((clock_Clock_Rest.f bt164.2.1 bt164.2.2.1 bt164.2.2.2.1 bt164.2.2.2.2.1 bt164.2.2.2.2.2).bind fun bt170 => (if bt170.1 ≥ a2_1 then (some false) else (tiklaw22_ClockSteps.l0 kj22 l3 t158 (IntKind.u64.wrap (x14_2 + (rd l3 x15_2))) (wrap64 (x15_2 + 1)) a2_0 a2_1 bt170.2.1 bt170.2.2.1 bt170.2.2.2.1 bt170.2.2.2.2.1 bt170.2.2.2.2.2 t147 t148 t149 t150 t151)))) else (some false))) = some r := H
                          have A31 := Aside0.mk A310
                          clear A310
                          replace H := Option.bind_eq_some_iff.mp H
                          obtain ⟨⟨t164, t165, t166, t167, t168, t169⟩, A320, H⟩ := H
                          replace H : (if t164 = t158 then (if t158 < x13_2 then (some false) else ((clock_Clock_Rest.f t165 t166 t167 t168 t169).bind fun bt170 => (if bt170.1 ≥ a2_1 then (some false) else (tiklaw22_ClockSteps.l0 kj22 l3 t158 (IntKind.u64.wrap (x14_2 + (rd l3 x15_2))) (wrap64 (x15_2 + 1)) a2_0 a2_1 bt170.2.1 bt170.2.2.1 bt170.2.2.2.1 bt170.2.2.2.2.1 bt170.2.2.2.2.2 t147 t148 t149 t150 t151)))) else (some false)) = some r := H
                          have A32 := Aside0.mk A320
                          clear A320
                          by_cases c33 : t164 = t158
                          · rw [if_pos c33] at H
                            have c33b0 : (t164 == t158) = true := beq_iff_eq.mpr c33
                            have c33b1 : (t164 != t158) = false := bne_eq_false_iff_eq.mpr c33
                            clear c33
                            by_cases c34 : t158 < x13_2
                            · rw [if_pos c34] at H
                              have c34b0 : decide (t158 < x13_2) = true := decide_eq_true c34
                              clear c34
                              exact absurd ((Option.some.inj H).trans hr_.out) (by simp)
                            · rw [if_neg c34] at H
                              have c34b0 : decide (t158 < x13_2) = false := decide_eq_false c34
                              clear c34
                              replace H := Option.bind_eq_some_iff.mp H
                              obtain ⟨⟨t170, t171, t172, t173, t174, t175⟩, A350, H⟩ := H
                              replace H : (if t170 ≥ a2_1 then (some false) else (tiklaw22_ClockSteps.l0 kj22 l3 t158 (IntKind.u64.wrap (x14_2 + (rd l3 x15_2))) (wrap64 (x15_2 + 1)) a2_0 a2_1 t171 t172 t173 t174 t175 t147 t148 t149 t150 t151)) = some r := H
                              have A35 := Aside0.mk A350
                              clear A350
                              by_cases c36 : t170 ≥ a2_1
                              · rw [if_pos c36] at H
                                have c36b0 : decide (a2_1 ≤ t170) = true := decide_eq_true c36
                                clear c36
                                exact absurd ((Option.some.inj H).trans hr_.out) (by simp)
                              · rw [if_neg c36] at H
                                have c36b0 : decide (a2_1 ≤ t170) = false := decide_eq_false c36
                                clear c36
                                have H' := Aside0.mk H
                                clear H
                                have p157 : 0 ≤ (x15_2 : Int) := of_decide_eq_true (by first | (with_reducible assumption) | assumption)
                                have q157 : x15_2 < (l3.length : Int) := of_decide_eq_true (by first | (with_reducible assumption) | assumption)
                                obtain ⟨ad157, e157, hx157_0⟩ := Kd.at_int HR3.out x15_2 p157 q157
                                cases e157
                                replace hx157_0 := (HB.out.cell (World.block_lt_of_cell? w _ hx157_0)).trans hx157_0
                                replace p157 := eq_true p157
                                replace q157 := eq_true q157
                                try go_wp2_with (first | ((with_reducible refine gate_callee (f := 9) rfl ?_); refine goesL_ (some 79) rfl rfl Try.func9 (by kernel_rfl) rfl #[.pointer (some ⟨g145, 0, none⟩), .int .u64 (IntKind.u64.wrap (x14_2 + (rd l3 x15_2)))] rfl (by (try simp only [List.map_toArray, List.map_cons, List.map_nil]); first | done | rfl | (simp only [List.length_drop, List.length_take]; rfl)) ?_; (with_reducible refine (clock_Clock_At.calls g145 x146000_2 x146001_2 x146002_2 x146003_2 x146004_2 (IntKind.u64.wrap (x14_2 + (rd l3 x15_2))) t158 t159 t160 t161 t162 t163 w _ ?side1 ?side2 A31.out).mono ?_); (case side1 => repeat (first | (with_reducible first | exact HI145.out | apply IsS55.alloc | apply IsS55.drewN | apply IsS55.drew | apply IsS55.set_0 | apply IsS55.set_1 | apply IsS55.set_2 | apply IsS55.set_3 | apply IsS55.set_4 | refine IsS55.far ?_ NB145_138.out _) | exact HI145.out)); (case side2 => repeat (first | (with_reducible first | exact HB.out | apply below_alloc | apply pw_below_drewN | apply below_drew1 | refine below_set ?_ (IsS55.ge HI145.out) | refine below_set ?_ (IsS55.ge HI152.out) | refine below_set ?_ GE138.out) | exact HB.out)); rintro e w37 ⟨rfl, hi, hb, hk⟩; refine ⟨_, rfl, ?_⟩; have n0_ := Aside0.mk (KeepBut.blk hk (g' := gb138) (o := .cells #[.int .u64 a2_0, .int .u64 a2_1] 24 (0, 0)) (by (with_reducible repeat (first | refine blk_drewN ?_ _ | refine blk_drew ?_ | refine blk_alloc ?_ _)); exact BK138.out) NB138_145.out (by simp)); have n1_ := Aside0.mk (IsS55.kept (show IsS55 w _ g152 t147 t148 t149 t150 t151 from by repeat (first | (with_reducible first | exact HI152.out | apply IsS55.alloc | apply IsS55.drewN | apply IsS55.drew | apply IsS55.set_0 | apply IsS55.set_1 | apply IsS55.set_2 | apply IsS55.set_3 | apply IsS55.set_4 | refine IsS55.far ?_ NB152_138.out _) | exact HI152.out)) ⟨hk.1, fun i_ hi_ hs_ => hk.2 i_ hi_ hs_ (by simp)⟩ (NB152_145.out)); have n2_ := Aside0.mk (hb); have n3_ := Aside0.mk (hi); clear BK138; clear HI152; clear HB; clear HI145; have BK138 := n0_; have HI152 := n1_; have HB := n2_; have HI145 := n3_; clear n0_ n1_ n2_ n3_; (try clear hb); (try clear hb2); (try clear hk); (try clear hi)))
                                have n0_ := Aside0.mk (blk_drew BK138.out)
                                have n1_ := Aside0.mk (IsS55.drew HI145.out)
                                have n2_ := Aside0.mk (IsS55.drew HI152.out)
                                have n3_ := Aside0.mk (below_drew1 HB.out)
                                clear BK138
                                clear HI145
                                clear HI152
                                clear HB
                                have BK138 := n0_
                                have HI145 := n1_
                                have HI152 := n2_
                                have HB := n3_
                                clear n0_ n1_ n2_ n3_
                                refine start_ (n := 17) (S := fun w' => w'.cell? ⟨gb138, 0, none⟩ = some (.int .u64 a2_0) ∧ w'.cell? ⟨gb138, 1, none⟩ = some (.int .u64 a2_1)) (ds := []) #[false, false, false, false, false, false, false, false, false, false, false, false, false, false, false, false, false] (by kernel_rfl) rfl rfl ⟨(blk_cell BK138.out 0).trans rfl, (blk_cell BK138.out 1).trans rfl⟩ (fun hHeld => ?_); refine with_tabW tiklaw22_ClockSteps.tab16 tiklaw22_ClockSteps.bits16 (fun HT_ HW_ => ?_)
                                generalize w37.drew = w38 at BK138 HI145 HI152 HB hHeld ⊢
                                refine pure_ (i := 0) (N := some 80) (v := ?_) (a' := ?_) #[true, false, false, false, false, false, false, false, false, false, false, false, false, false, false, false, false] rfl rfl (any_of HT_.out (by kernel_rfl)) (fun _ _ _ h => h) (Or.inl ⟨by rfl, ?_⟩) ?_ ?_
                                rotate_left
                                · intro w'
                                  go_simp
                                  with_reducible rfl
                                rotate_left
                                · simp only [Act.put, List.setIfInBounds_toArray, List.set_cons_zero, List.set_cons_succ, i64_w, i32_w]
                                  rfl
                                refine pure_ (i := 1) (N := some 81) (v := ?_) (a' := ?_) #[true, true, false, false, false, false, false, false, false, false, false, false, false, false, false, false, false] rfl rfl (any_of HT_.out (by kernel_rfl)) (fun _ _ _ h => h) (Or.inl ⟨by rfl, ?_⟩) ?_ ?_
                                rotate_left
                                · intro w'
                                  go_simp
                                  with_reducible rfl
                                rotate_left
                                · simp only [Act.put, List.setIfInBounds_toArray, List.set_cons_zero, List.set_cons_succ, i64_w, i32_w]
                                  rfl
                                refine pure_ (i := 3) (N := some 83) (v := ?_) (a' := ?_) #[true, true, false, true, false, false, false, false, false, false, false, false, false, false, false, false, false] rfl rfl (any_of HT_.out (by kernel_rfl)) (fun _ _ _ h => h) (Or.inl ⟨by rfl, ?_⟩) ?_ ?_
                                rotate_left
                                · intro w'
                                  go_simp
                                  with_reducible rfl
                                rotate_left
                                · simp only [Act.put, List.setIfInBounds_toArray, List.set_cons_zero, List.set_cons_succ, i64_w, i32_w]
                                  rfl
                                refine one_ (i := 2) (N := some 82) #[true, true, true, true, false, false, false, false, false, false, false, false, false, false, false, false, false] rfl rfl (one_of HT_.out (by kernel_rfl)) (by decide) (fun K hK => ?_)
                                refine goes_ Try.func10 (by kernel_rfl) rfl #[.pointer (some ⟨g145, 0, none⟩), .int .u64 (IntKind.u64.wrap (x14_2 + (rd l3 x15_2)))] (by rfl) rfl rfl (by (try simp only [List.map_toArray, List.map_cons, List.map_nil]); first | done | rfl | (simp only [List.length_drop, List.length_take]; rfl)) ?_
                                with_reducible refine (clock_Clock_Go.calls g145 t159 t160 t161 t162 t163 (IntKind.u64.wrap (x14_2 + (rd l3 x15_2))) t164 t165 t166 t167 t168 t169 w _ ?side1 ?side2 A32.out).mono ?_
                                (case side1 => repeat (first | (with_reducible first | exact HI145.out | apply IsS55.alloc | apply IsS55.drewN | apply IsS55.drew | apply IsS55.set_0 | apply IsS55.set_1 | apply IsS55.set_2 | apply IsS55.set_3 | apply IsS55.set_4 | refine IsS55.far ?_ NB145_138.out _) | exact HI145.out))
                                (case side2 => repeat (first | (with_reducible first | exact HB.out | apply below_alloc | apply pw_below_drewN | apply below_drew1 | refine below_set ?_ (IsS55.ge HI145.out) | refine below_set ?_ (IsS55.ge HI152.out) | refine below_set ?_ GE138.out) | exact HB.out))
                                rintro e w39 ⟨rfl, hi, hb, hk⟩
                                refine ⟨_, rfl, ?_⟩
                                have n0_ := Aside0.mk (KeepBut.blk hk (g' := gb138) (o := .cells #[.int .u64 a2_0, .int .u64 a2_1] 24 (0, 0)) (by (with_reducible repeat (first | refine blk_drewN ?_ _ | refine blk_drew ?_ | refine blk_alloc ?_ _)); exact BK138.out) NB138_145.out (by simp))
                                have n1_ := Aside0.mk (IsS55.kept (show IsS55 w _ g152 t147 t148 t149 t150 t151 from by repeat (first | (with_reducible first | exact HI152.out | apply IsS55.alloc | apply IsS55.drewN | apply IsS55.drew | apply IsS55.set_0 | apply IsS55.set_1 | apply IsS55.set_2 | apply IsS55.set_3 | apply IsS55.set_4 | refine IsS55.far ?_ NB152_138.out _) | exact HI152.out)) ⟨hk.1, fun i_ hi_ hs_ => hk.2 i_ hi_ hs_ (by simp)⟩ (NB152_145.out))
                                have n2_ := Aside0.mk (hb)
                                have n3_ := Aside0.mk (hi)
                                clear BK138
                                clear HI152
                                clear HB
                                clear HI145
                                have BK138 := n0_
                                have HI152 := n1_
                                have HB := n2_
                                have HI145 := n3_
                                clear n0_ n1_ n2_ n3_
                                (try clear hb)
                                (try clear hb2)
                                (try clear hk)
                                (try clear hi)
                                refine hK.out _ _ ⟨(blk_cell BK138.out 0).trans rfl, (blk_cell BK138.out 1).trans rfl⟩ (fun hHeld => ?_)
                                clear hK K
                                refine norm_ (a' := ?_) ?_ ?_
                                rotate_left
                                · show Act.put _ (some 82) _ = _
                                  simp only [Act.put, List.setIfInBounds_toArray, List.set_cons_zero, List.set_cons_succ, i64_w, i32_w]
                                  rfl
                                refine pure_ (i := 4) (N := some 84) (v := ?_) (a' := ?_) #[true, true, true, true, true, false, false, false, false, false, false, false, false, false, false, false, false] rfl rfl (any_of HT_.out (by kernel_rfl)) (fun _ _ _ h => h) (Or.inl ⟨by rfl, ?_⟩) ?_ ?_
                                rotate_left
                                · intro w'
                                  go_simp
                                  with_reducible rfl
                                rotate_left
                                · simp only [Act.put, List.setIfInBounds_toArray, List.set_cons_zero, List.set_cons_succ, i64_w, i32_w]
                                  rfl
                                refine pure_ (i := 5) (N := some 85) (v := ?_) (a' := ?_) #[true, true, true, true, true, true, false, false, false, false, false, false, false, false, false, false, false] rfl rfl (any_of HT_.out (by kernel_rfl)) (fun _ _ _ h => h) (Or.inl ⟨by rfl, ?_⟩) ?_ ?_
                                rotate_left
                                · intro w'
                                  go_simp
                                  with_reducible rfl
                                rotate_left
                                · simp only [Act.put, List.setIfInBounds_toArray, List.set_cons_zero, List.set_cons_succ, i64_w, i32_w]
                                  rfl
                                refine pure_ (i := 6) (N := some 86) (v := ?_) (a' := ?_) #[true, true, true, true, true, true, true, false, false, false, false, false, false, false, false, false, false] rfl rfl (any_of HT_.out (by kernel_rfl)) (fun _ _ _ h => h) (Or.inl ⟨by rfl, ?_⟩) ?_ ?_
                                rotate_left
                                · intro w'
                                  go_simp
                                  with_reducible rfl
                                rotate_left
                                · simp only [Act.put, List.setIfInBounds_toArray, List.set_cons_zero, List.set_cons_succ, i64_w, i32_w]
                                  rfl
                                refine pure_ (i := 7) (N := some 87) (v := ?_) (a' := ?_) #[true, true, true, true, true, true, true, true, false, false, false, false, false, false, false, false, false] rfl rfl (any_of HT_.out (by kernel_rfl)) (fun _ _ _ h => h) (Or.inl ⟨by rfl, ?_⟩) ?_ ?_
                                rotate_left
                                · intro w'
                                  go_simp
                                  with_reducible rfl
                                rotate_left
                                · simp only [Act.put, List.setIfInBounds_toArray, List.set_cons_zero, List.set_cons_succ, i64_w, i32_w]
                                  rfl
                                refine pure_ (i := 8) (N := some 88) (v := ?_) (a' := ?_) #[true, true, true, true, true, true, true, true, true, false, false, false, false, false, false, false, false] rfl rfl (any_of HT_.out (by kernel_rfl)) (fun _ _ _ h => h) (Or.inl ⟨by rfl, ?_⟩) ?_ ?_
                                rotate_left
                                · intro w'
                                  go_simp
                                  with_reducible rfl
                                rotate_left
                                · simp only [Act.put, List.setIfInBounds_toArray, List.set_cons_zero, List.set_cons_succ, i64_w, i32_w]
                                  rfl
                                refine pure_ (i := 9) (N := some 89) (v := ?_) (a' := ?_) #[true, true, true, true, true, true, true, true, true, true, false, false, false, false, false, false, false] rfl rfl (any_of HT_.out (by kernel_rfl)) (fun _ _ _ h => h) (Or.inl ⟨by rfl, ?_⟩) ?_ ?_
                                rotate_left
                                · intro w'
                                  go_simp
                                  with_reducible rfl
                                rotate_left
                                · simp only [Act.put, List.setIfInBounds_toArray, List.set_cons_zero, List.set_cons_succ, i64_w, i32_w]
                                  rfl
                                refine pure_ (i := 10) (N := some 90) (v := ?_) (a' := ?_) #[true, true, true, true, true, true, true, true, true, true, true, false, false, false, false, false, false] rfl rfl (any_of HT_.out (by kernel_rfl)) (fun _ _ _ h => h) (Or.inl ⟨by rfl, ?_⟩) ?_ ?_
                                rotate_left
                                · intro w'
                                  go_simp
                                  with_reducible rfl
                                rotate_left
                                · simp only [Act.put, List.setIfInBounds_toArray, List.set_cons_zero, List.set_cons_succ, i64_w, i32_w]
                                  rfl
                                refine pure_ (i := 11) (N := some 91) (v := ?_) (a' := ?_) #[true, true, true, true, true, true, true, true, true, true, true, true, false, false, false, false, false] rfl rfl (any_of HT_.out (by kernel_rfl)) (fun _ _ _ h => h) (Or.inl ⟨by rfl, ?_⟩) ?_ ?_
                                rotate_left
                                · intro w'
                                  go_simp
                                  with_reducible rfl
                                rotate_left
                                · simp only [Act.put, List.setIfInBounds_toArray, List.set_cons_zero, List.set_cons_succ, i64_w, i32_w]
                                  rfl
                                refine pure_ (i := 13) (N := some 93) (v := ?_) (a' := ?_) #[true, true, true, true, true, true, true, true, true, true, true, true, false, true, false, false, false] rfl rfl (any_of HT_.out (by kernel_rfl)) (fun _ _ _ h => h) (Or.inl ⟨by rfl, ?_⟩) ?_ ?_
                                rotate_left
                                · intro w'
                                  go_simp
                                  with_reducible rfl
                                rotate_left
                                · simp only [Act.put, List.setIfInBounds_toArray, List.set_cons_zero, List.set_cons_succ, i64_w, i32_w]
                                  rfl
                                refine take_ (i := 14) (N := some 94) (v := ?_) (a' := ?_) #[true, true, true, true, true, true, true, true, true, true, true, true, false, true, true, false, false] rfl rfl (take_ofW HT_.out HW_.out (by kernel_rfl)) (fun _ _ _ h => h) (Or.inl ⟨by rfl, ?_⟩) hHeld ?_ ?_
                                rotate_left
                                · rintro w' ⟨s0, s1⟩
                                  go_simp
                                  with_reducible rfl
                                rotate_left
                                · simp only [Act.put, List.setIfInBounds_toArray, List.set_cons_zero, List.set_cons_succ, i64_w, i32_w]
                                  rfl
                                refine one_ (i := 12) (N := some 92) #[true, true, true, true, true, true, true, true, true, true, true, true, true, true, true, false, false] rfl rfl (one_of HT_.out (by kernel_rfl)) (by decide) (fun K hK => ?_)
                                refine goes_ Try.func11 (by kernel_rfl) rfl #[.pointer (some ⟨g145, 0, none⟩)] (by rfl) rfl rfl (by (try simp only [List.map_toArray, List.map_cons, List.map_nil]); first | done | rfl | (simp only [List.length_drop, List.length_take]; rfl)) ?_
                                with_reducible refine (clock_Clock_Rest.calls g145 t165 t166 t167 t168 t169 t170 t171 t172 t173 t174 t175 w _ ?side1 ?side2 A35.out).mono ?_
                                (case side1 => repeat (first | (with_reducible first | exact HI145.out | apply IsS55.alloc | apply IsS55.drewN | apply IsS55.drew | apply IsS55.set_0 | apply IsS55.set_1 | apply IsS55.set_2 | apply IsS55.set_3 | apply IsS55.set_4 | refine IsS55.far ?_ NB145_138.out _) | exact HI145.out))
                                (case side2 => repeat (first | (with_reducible first | exact HB.out | apply below_alloc | apply pw_below_drewN | apply below_drew1 | refine below_set ?_ (IsS55.ge HI145.out) | refine below_set ?_ (IsS55.ge HI152.out) | refine below_set ?_ GE138.out) | exact HB.out))
                                rintro e w40 ⟨rfl, hi, hb, hk⟩
                                refine ⟨_, rfl, ?_⟩
                                have n0_ := Aside0.mk (KeepBut.blk hk (g' := gb138) (o := .cells #[.int .u64 a2_0, .int .u64 a2_1] 24 (0, 0)) (by (with_reducible repeat (first | refine blk_drewN ?_ _ | refine blk_drew ?_ | refine blk_alloc ?_ _)); exact BK138.out) NB138_145.out (by simp))
                                have n1_ := Aside0.mk (IsS55.kept (show IsS55 w _ g152 t147 t148 t149 t150 t151 from by repeat (first | (with_reducible first | exact HI152.out | apply IsS55.alloc | apply IsS55.drewN | apply IsS55.drew | apply IsS55.set_0 | apply IsS55.set_1 | apply IsS55.set_2 | apply IsS55.set_3 | apply IsS55.set_4 | refine IsS55.far ?_ NB152_138.out _) | exact HI152.out)) ⟨hk.1, fun i_ hi_ hs_ => hk.2 i_ hi_ hs_ (by simp)⟩ (NB152_145.out))
                                have n2_ := Aside0.mk (hb)
                                have n3_ := Aside0.mk (hi)
                                clear BK138
                                clear HI152
                                clear HB
                                clear HI145
                                have BK138 := n0_
                                have HI152 := n1_
                                have HB := n2_
                                have HI145 := n3_
                                clear n0_ n1_ n2_ n3_
                                (try clear hb)
                                (try clear hb2)
                                (try clear hk)
                                (try clear hi)
                                refine hK.out _ _ ⟨(blk_cell BK138.out 0).trans rfl, (blk_cell BK138.out 1).trans rfl⟩ (fun hHeld => ?_)
                                clear hK K
                                refine norm_ (a' := ?_) ?_ ?_
                                rotate_left
                                · show Act.put _ (some 92) _ = _
                                  simp only [Act.put, List.setIfInBounds_toArray, List.set_cons_zero, List.set_cons_succ, i64_w, i32_w]
                                  rfl
                                refine pure_ (i := 15) (N := some 95) (v := ?_) (a' := ?_) #[true, true, true, true, true, true, true, true, true, true, true, true, true, true, true, true, false] rfl rfl (any_of HT_.out (by kernel_rfl)) (fun _ _ _ h => h) (Or.inl ⟨by rfl, ?_⟩) ?_ ?_
                                rotate_left
                                · intro w'
                                  go_simp
                                  with_reducible rfl
                                rotate_left
                                · simp only [Act.put, List.setIfInBounds_toArray, List.set_cons_zero, List.set_cons_succ, i64_w, i32_w]
                                  rfl
                                refine pure_ (i := 16) (N := some 96) (v := ?_) (a' := ?_) #[true, true, true, true, true, true, true, true, true, true, true, true, true, true, true, true, true] rfl rfl (any_of HT_.out (by kernel_rfl)) (fun _ _ _ h => h) (Or.inl ⟨by rfl, ?_⟩) ?_ ?_
                                rotate_left
                                · intro w'
                                  go_simp
                                  with_reducible rfl
                                rotate_left
                                · simp only [Act.put, List.setIfInBounds_toArray, List.set_cons_zero, List.set_cons_succ, i64_w, i32_w]
                                  rfl
                                refine done_ (done_of HT_.out (by kernel_rfl)) ?_
                                try go_wp2
                                go_roundg kj22
                                case measure => have := HJ8.out; have := HK2.out; have := HJ22.out; omega
                                case rel => exact ⟨(t158), (IntKind.u64.wrap (x14_2 + (rd l3 x15_2))), (wrap64 (x15_2 + 1)), (t171), (t172), (t173), (t174), (t175), (by first | rfl | (simp; done) | (simp [*]; done)), (by first | rfl | (simp; done) | (simp [*]; done)), (by first | rfl | (simp; done) | (simp [*]; done)), H', ⟨by have := HJ8.out; have := HK2.out; have := HJ22.out; omega⟩, ⟨by (with_reducible repeat (first | refine blk_drewN ?_ _ | refine blk_drew ?_ | refine blk_alloc ?_ _)); exact BK138.out⟩, ⟨by repeat (first | (with_reducible first | exact HI145.out | apply IsS55.alloc | apply IsS55.drewN | apply IsS55.drew | apply IsS55.set_0 | apply IsS55.set_1 | apply IsS55.set_2 | apply IsS55.set_3 | apply IsS55.set_4 | refine IsS55.far ?_ NB145_138.out _) | exact HI145.out)⟩, ⟨by repeat (first | (with_reducible first | exact HI152.out | apply IsS55.alloc | apply IsS55.drewN | apply IsS55.drew | apply IsS55.set_0 | apply IsS55.set_1 | apply IsS55.set_2 | apply IsS55.set_3 | apply IsS55.set_4 | refine IsS55.far ?_ NB152_138.out _) | exact HI152.out)⟩, ⟨by repeat (first | (with_reducible first | exact HB.out | apply below_alloc | apply pw_below_drewN | apply below_drew1 | refine below_set ?_ (IsS55.ge HI145.out) | refine below_set ?_ (IsS55.ge HI152.out) | refine below_set ?_ GE138.out) | exact HB.out)⟩⟩
                          · rw [if_neg c33] at H
                            have c33b0 : (t164 == t158) = false := beq_eq_false_iff_ne.mpr c33
                            have c33b1 : (t164 != t158) = true := bne_iff_ne.mpr c33
                            exact absurd ((Option.some.inj H).trans hr_.out) (by simp)
                        · rw [if_neg c30] at H
                          exact absurd H (by simp)
                      · rw [if_neg c29] at H
                        exact absurd H (by simp)
              · rw [if_neg c22] at H
                have c22b0 : decide (x15_2 < (l3.length : Int)) = false := decide_eq_false c22
                clear c22
                replace H := Option.bind_eq_some_iff.mp H
                obtain ⟨t176, A410, H⟩ := H
                replace H : (if t176 = true then ((clock_Clock_At.f t147 t148 t149 t150 t151 x14_2).bind fun bt177 => (if bt177.1 = x13_2 then ((clock_Clock_Go.f bt177.2.1 bt177.2.2.1 bt177.2.2.2.1 bt177.2.2.2.2.1 bt177.2.2.2.2.2 x14_2).bind fun bt183 => (if bt183.1 = x13_2 then ((clock_Clock_Rest.f bt183.2.1 bt183.2.2.1 bt183.2.2.2.1 bt183.2.2.2.2.1 bt183.2.2.2.2.2).bind fun bt189 => ((clock_Clock_Rest.f x146000_2 x146001_2 x146002_2 x146003_2 x146004_2).bind fun bt195 => (some (bt189.1 == bt195.1)))) else (some false))) else (some false))) else (some false)) = some r := H
                have A41 := Aside0.mk A410
                clear A410
                by_cases c42 : t176 = true
                · subst c42
                  have H1 : ((clock_Clock_At.f t147 t148 t149 t150 t151 x14_2).bind fun bt177 => (if bt177.1 = x13_2 then ((clock_Clock_Go.f bt177.2.1 bt177.2.2.1 bt177.2.2.2.1 bt177.2.2.2.2.1 bt177.2.2.2.2.2 x14_2).bind fun bt183 => (if bt183.1 = x13_2 then ((clock_Clock_Rest.f bt183.2.1 bt183.2.2.1 bt183.2.2.2.1 bt183.2.2.2.2.1 bt183.2.2.2.2.2).bind fun bt189 => ((clock_Clock_Rest.f x146000_2 x146001_2 x146002_2 x146003_2 x146004_2).bind fun bt195 => (some (bt189.1 == bt195.1)))) else (some false))) else (some false))) = some r := by rw [if_pos rfl] at H; exact H
                  clear H
                  have H := H1
                  clear H1
                  replace H := Option.bind_eq_some_iff.mp H
                  obtain ⟨⟨t177, t178, t179, t180, t181, t182⟩, A430, H⟩ := H
                  replace H : (if t177 = x13_2 then ((clock_Clock_Go.f t178 t179 t180 t181 t182 x14_2).bind fun bt183 => (if bt183.1 = x13_2 then ((clock_Clock_Rest.f bt183.2.1 bt183.2.2.1 bt183.2.2.2.1 bt183.2.2.2.2.1 bt183.2.2.2.2.2).bind fun bt189 => ((clock_Clock_Rest.f x146000_2 x146001_2 x146002_2 x146003_2 x146004_2).bind fun bt195 => (some (bt189.1 == bt195.1)))) else (some false))) else (some false)) = some r := H
                  have A43 := Aside0.mk A430
                  clear A430
                  by_cases c44 : t177 = x13_2
                  · rw [if_pos c44] at H
                    have c44b0 : (t177 == x13_2) = true := beq_iff_eq.mpr c44
                    have c44b1 : (t177 != x13_2) = false := bne_eq_false_iff_eq.mpr c44
                    clear c44
                    replace H := Option.bind_eq_some_iff.mp H
                    obtain ⟨⟨t183, t184, t185, t186, t187, t188⟩, A450, H⟩ := H
                    replace H : (if t183 = x13_2 then ((clock_Clock_Rest.f t184 t185 t186 t187 t188).bind fun bt189 => ((clock_Clock_Rest.f x146000_2 x146001_2 x146002_2 x146003_2 x146004_2).bind fun bt195 => (some (bt189.1 == bt195.1)))) else (some false)) = some r := H
                    have A45 := Aside0.mk A450
                    clear A450
                    by_cases c46 : t183 = x13_2
                    · rw [if_pos c46] at H
                      have c46b0 : (t183 == x13_2) = true := beq_iff_eq.mpr c46
                      have c46b1 : (t183 != x13_2) = false := bne_eq_false_iff_eq.mpr c46
                      clear c46
                      replace H := Option.bind_eq_some_iff.mp H
                      obtain ⟨⟨t189, t190, t191, t192, t193, t194⟩, A470, H⟩ := H
                      replace H : ((clock_Clock_Rest.f x146000_2 x146001_2 x146002_2 x146003_2 x146004_2).bind fun bt195 => (some (t189 == bt195.1))) = some r := H
                      have A47 := Aside0.mk A470
                      clear A470
                      replace H := Option.bind_eq_some_iff.mp H
                      obtain ⟨⟨t195, t196, t197, t198, t199, t200⟩, A480, H⟩ := H
                      replace H : (some (t189 == t195)) = some r := H
                      have A48 := Aside0.mk A480
                      clear A480
                      obtain rfl := Option.some.inj H
                      go_wp2_with (first | ((with_reducible refine gate_callee (f := 7) rfl ?_); refine goesL_ (some 98) rfl rfl Try.func7 (by kernel_rfl) rfl #[] rfl (by (try simp only [List.map_toArray, List.map_cons, List.map_nil]); first | done | rfl | (simp only [List.length_drop, List.length_take]; rfl)) ?_; (with_reducible refine (tiklaw22_first.calls  true _ A41.out).mono ?_); rintro e w49 ⟨rfl, hb⟩; refine ⟨_, rfl, ?_⟩; have n0_ := Aside0.mk (blk_below (g := gb138) (o := .cells #[.int .u64 a2_0, .int .u64 a2_1] 24 (0, 0)) (by (with_reducible repeat (first | refine blk_drewN ?_ _ | refine blk_drew ?_ | refine blk_alloc ?_ _)); exact BK138.out) hb); have n1_ := Aside0.mk (IsS55.below (by repeat (first | (with_reducible first | exact HI145.out | apply IsS55.alloc | apply IsS55.drewN | apply IsS55.drew | apply IsS55.set_0 | apply IsS55.set_1 | apply IsS55.set_2 | apply IsS55.set_3 | apply IsS55.set_4 | refine IsS55.far ?_ NB145_138.out _) | exact HI145.out)) hb); have n2_ := Aside0.mk (IsS55.below (by repeat (first | (with_reducible first | exact HI152.out | apply IsS55.alloc | apply IsS55.drewN | apply IsS55.drew | apply IsS55.set_0 | apply IsS55.set_1 | apply IsS55.set_2 | apply IsS55.set_3 | apply IsS55.set_4 | refine IsS55.far ?_ NB152_138.out _) | exact HI152.out)) hb); have n3_ := Aside0.mk (below_step (by repeat (first | (with_reducible first | exact HB.out | apply below_alloc | apply pw_below_drewN | apply below_drew1 | refine below_set ?_ (IsS55.ge HI145.out) | refine below_set ?_ (IsS55.ge HI152.out) | refine below_set ?_ GE138.out) | exact HB.out)) hb); clear BK138; clear HI145; clear HI152; clear HB; have BK138 := n0_; have HI145 := n1_; have HI152 := n2_; have HB := n3_; clear n0_ n1_ n2_ n3_; (try clear hb); (try clear hb2); (try clear hk); (try clear hi)) | (go_at_call 9; (with_reducible refine (clock_Clock_At.calls g152 t147 t148 t149 t150 t151 x14_2 t177 t178 t179 t180 t181 t182 w _ ?side1 ?side2 A43.out).mono ?_); (case side1 => repeat (first | (with_reducible first | exact HI152.out | apply IsS55.alloc | apply IsS55.drewN | apply IsS55.drew | apply IsS55.set_0 | apply IsS55.set_1 | apply IsS55.set_2 | apply IsS55.set_3 | apply IsS55.set_4 | refine IsS55.far ?_ NB152_138.out _) | exact HI152.out)); (case side2 => repeat (first | (with_reducible first | exact HB.out | apply below_alloc | apply pw_below_drewN | apply below_drew1 | refine below_set ?_ (IsS55.ge HI145.out) | refine below_set ?_ (IsS55.ge HI152.out) | refine below_set ?_ GE138.out) | exact HB.out)); rintro e w50 ⟨rfl, hi, hb, hk⟩; have n0_ := Aside0.mk (KeepBut.blk hk (g' := gb138) (o := .cells #[.int .u64 a2_0, .int .u64 a2_1] 24 (0, 0)) (by (with_reducible repeat (first | refine blk_drewN ?_ _ | refine blk_drew ?_ | refine blk_alloc ?_ _)); exact BK138.out) NB138_152.out (by simp)); have n1_ := Aside0.mk (IsS55.kept (show IsS55 w _ g145 x146000_2 x146001_2 x146002_2 x146003_2 x146004_2 from by repeat (first | (with_reducible first | exact HI145.out | apply IsS55.alloc | apply IsS55.drewN | apply IsS55.drew | apply IsS55.set_0 | apply IsS55.set_1 | apply IsS55.set_2 | apply IsS55.set_3 | apply IsS55.set_4 | refine IsS55.far ?_ NB145_138.out _) | exact HI145.out)) ⟨hk.1, fun i_ hi_ hs_ => hk.2 i_ hi_ hs_ (by simp)⟩ (NB145_152.out)); have n2_ := Aside0.mk (hb); have n3_ := Aside0.mk (hi); clear BK138; clear HI145; clear HB; clear HI152; have BK138 := n0_; have HI145 := n1_; have HB := n2_; have HI152 := n3_; clear n0_ n1_ n2_ n3_; (try clear hb); (try clear hb2); (try clear hk); (try clear hi)) | (go_at_call 10; (with_reducible refine (clock_Clock_Go.calls g152 t178 t179 t180 t181 t182 x14_2 t183 t184 t185 t186 t187 t188 w _ ?side1 ?side2 A45.out).mono ?_); (case side1 => repeat (first | (with_reducible first | exact HI152.out | apply IsS55.alloc | apply IsS55.drewN | apply IsS55.drew | apply IsS55.set_0 | apply IsS55.set_1 | apply IsS55.set_2 | apply IsS55.set_3 | apply IsS55.set_4 | refine IsS55.far ?_ NB152_138.out _) | exact HI152.out)); (case side2 => repeat (first | (with_reducible first | exact HB.out | apply below_alloc | apply pw_below_drewN | apply below_drew1 | refine below_set ?_ (IsS55.ge HI145.out) | refine below_set ?_ (IsS55.ge HI152.out) | refine below_set ?_ GE138.out) | exact HB.out)); rintro e w51 ⟨rfl, hi, hb, hk⟩; have n0_ := Aside0.mk (KeepBut.blk hk (g' := gb138) (o := .cells #[.int .u64 a2_0, .int .u64 a2_1] 24 (0, 0)) (by (with_reducible repeat (first | refine blk_drewN ?_ _ | refine blk_drew ?_ | refine blk_alloc ?_ _)); exact BK138.out) NB138_152.out (by simp)); have n1_ := Aside0.mk (IsS55.kept (show IsS55 w _ g145 x146000_2 x146001_2 x146002_2 x146003_2 x146004_2 from by repeat (first | (with_reducible first | exact HI145.out | apply IsS55.alloc | apply IsS55.drewN | apply IsS55.drew | apply IsS55.set_0 | apply IsS55.set_1 | apply IsS55.set_2 | apply IsS55.set_3 | apply IsS55.set_4 | refine IsS55.far ?_ NB145_138.out _) | exact HI145.out)) ⟨hk.1, fun i_ hi_ hs_ => hk.2 i_ hi_ hs_ (by simp)⟩ (NB145_152.out)); have n2_ := Aside0.mk (hb); have n3_ := Aside0.mk (hi); clear BK138; clear HI145; clear HB; clear HI152; have BK138 := n0_; have HI145 := n1_; have HB := n2_; have HI152 := n3_; clear n0_ n1_ n2_ n3_; (try clear hb); (try clear hb2); (try clear hk); (try clear hi)) | (go_at_call 11; (with_reducible refine (clock_Clock_Rest.calls g152 t184 t185 t186 t187 t188 t189 t190 t191 t192 t193 t194 w _ ?side1 ?side2 A47.out).mono ?_); (case side1 => repeat (first | (with_reducible first | exact HI152.out | apply IsS55.alloc | apply IsS55.drewN | apply IsS55.drew | apply IsS55.set_0 | apply IsS55.set_1 | apply IsS55.set_2 | apply IsS55.set_3 | apply IsS55.set_4 | refine IsS55.far ?_ NB152_138.out _) | exact HI152.out)); (case side2 => repeat (first | (with_reducible first | exact HB.out | apply below_alloc | apply pw_below_drewN | apply below_drew1 | refine below_set ?_ (IsS55.ge HI145.out) | refine below_set ?_ (IsS55.ge HI152.out) | refine below_set ?_ GE138.out) | exact HB.out)); rintro e w52 ⟨rfl, hi, hb, hk⟩; have n0_ := Aside0.mk (KeepBut.blk hk (g' := gb138) (o := .cells #[.int .u64 a2_0, .int .u64 a2_1] 24 (0, 0)) (by (with_reducible repeat (first | refine blk_drewN ?_ _ | refine blk_drew ?_ | refine blk_alloc ?_ _)); exact BK138.out) NB138_152.out (by simp)); have n1_ := Aside0.mk (IsS55.kept (show IsS55 w _ g145 x146000_2 x146001_2 x146002_2 x146003_2 x146004_2 from by repeat (first | (with_reducible first | exact HI145.out | apply IsS55.alloc | apply IsS55.drewN | apply IsS55.drew | apply IsS55.set_0 | apply IsS55.set_1 | apply IsS55.set_2 | apply IsS55.set_3 | apply IsS55.set_4 | refine IsS55.far ?_ NB145_138.out _) | exact HI145.out)) ⟨hk.1, fun i_ hi_ hs_ => hk.2 i_ hi_ hs_ (by simp)⟩ (NB145_152.out)); have n2_ := Aside0.mk (hb); have n3_ := Aside0.mk (hi); clear BK138; clear HI145; clear HB; clear HI152; have BK138 := n0_; have HI145 := n1_; have HB := n2_; have HI152 := n3_; clear n0_ n1_ n2_ n3_; (try clear hb); (try clear hb2); (try clear hk); (try clear hi)) | (go_at_call 11; (with_reducible refine (clock_Clock_Rest.calls g145 x146000_2 x146001_2 x146002_2 x146003_2 x146004_2 t195 t196 t197 t198 t199 t200 w _ ?side1 ?side2 A48.out).mono ?_); (case side1 => repeat (first | (with_reducible first | exact HI145.out | apply IsS55.alloc | apply IsS55.drewN | apply IsS55.drew | apply IsS55.set_0 | apply IsS55.set_1 | apply IsS55.set_2 | apply IsS55.set_3 | apply IsS55.set_4 | refine IsS55.far ?_ NB145_138.out _) | exact HI145.out)); (case side2 => repeat (first | (with_reducible first | exact HB.out | apply below_alloc | apply pw_below_drewN | apply below_drew1 | refine below_set ?_ (IsS55.ge HI145.out) | refine below_set ?_ (IsS55.ge HI152.out) | refine below_set ?_ GE138.out) | exact HB.out)); rintro e w53 ⟨rfl, hi, hb, hk⟩; have n0_ := Aside0.mk (KeepBut.blk hk (g' := gb138) (o := .cells #[.int .u64 a2_0, .int .u64 a2_1] 24 (0, 0)) (by (with_reducible repeat (first | refine blk_drewN ?_ _ | refine blk_drew ?_ | refine blk_alloc ?_ _)); exact BK138.out) NB138_145.out (by simp)); have n1_ := Aside0.mk (IsS55.kept (show IsS55 w _ g152 t190 t191 t192 t193 t194 from by repeat (first | (with_reducible first | exact HI152.out | apply IsS55.alloc | apply IsS55.drewN | apply IsS55.drew | apply IsS55.set_0 | apply IsS55.set_1 | apply IsS55.set_2 | apply IsS55.set_3 | apply IsS55.set_4 | refine IsS55.far ?_ NB152_138.out _) | exact HI152.out)) ⟨hk.1, fun i_ hi_ hs_ => hk.2 i_ hi_ hs_ (by simp)⟩ (NB152_145.out)); have n2_ := Aside0.mk (hb); have n3_ := Aside0.mk (hi); clear BK138; clear HI152; clear HB; clear HI145; have BK138 := n0_; have HI152 := n1_; have HB := n2_; have HI145 := n3_; clear n0_ n1_ n2_ n3_; (try clear hb); (try clear hb2); (try clear hk); (try clear hi)))
                      go_ret
                      exact ⟨by first | rfl | (simp [errW_none, errW_some] <;> rfl) | (simp [*, errW_none, errW_some] <;> rfl), by repeat (first | (with_reducible first | exact HB.out | apply below_alloc | apply pw_below_drewN | apply below_drew1 | refine below_set ?_ (IsS55.ge HI145.out) | refine below_set ?_ (IsS55.ge HI152.out) | refine below_set ?_ GE138.out) | exact HB.out)⟩
                    · rw [if_neg c46] at H
                      have c46b0 : (t183 == x13_2) = false := beq_eq_false_iff_ne.mpr c46
                      have c46b1 : (t183 != x13_2) = true := bne_iff_ne.mpr c46
                      exact absurd ((Option.some.inj H).trans hr_.out) (by simp)
                  · rw [if_neg c44] at H
                    have c44b0 : (t177 == x13_2) = false := beq_eq_false_iff_ne.mpr c44
                    have c44b1 : (t177 != x13_2) = true := bne_iff_ne.mpr c44
                    exact absurd ((Option.some.inj H).trans hr_.out) (by simp)
                · replace c42 := Bool.eq_false_iff.mpr c42
                  subst c42
                  have H1 : (some false) = some r := by rw [if_neg (show ¬ (false = true) by decide)] at H; exact H
                  clear H
                  have H := H1
                  clear H1
                  exact absurd ((Option.some.inj H).trans hr_.out) (by simp)
  · replace c6 := Bool.eq_false_iff.mpr c6
    subst c6
    have H1 : (some false) = some r := by rw [if_neg (show ¬ (false = true) by decide)] at H; exact H
    clear H
    have H := H1
    clear H1
    exact absurd ((Option.some.inj H).trans hr_.out) (by simp)

end Go.Proofs.Ytcfndcjbgalnpaa.PL
