-- written for this claim by mp.py (this repo), with the kit's print; checked by the kernel alone
import Derived.Test.YtabljieejnhefaaPBx0
namespace Go.Proofs.Ytabljieejnhefaa.PB
open Go.RowKit Go.Proofs.YtabljieejnhefaaW.PrintWords Go.Proofs.YtabljieejnhefaaW.PrintLast Go.Proofs.YtabljieejnhefaaW.PrintMore
attribute [local go_sem] max2_int min2_int max_two min_two max_three min_three max_four min_four   -- for this text's walks alone
open Go.Proofs.Ytabljieejnhefaa.Hand
open Go.Proofs.Ytabljieejnhefaa.PA
set_option linter.unusedVariables false
set_option linter.unusedSimpArgs false

/-! ### tiklaw2_WireNumbers: function 3 -/
def tiklaw2_WireNumbers.f (k : Nat) (a0 : Int) (l1 : List Int) (a2 : Int) : Option (Bool) := (tiklaw2_first.f).bind fun t101 => (if t101 = true then (if (l1.length : Int) > 2000 then ((tiklaw2_first.f).bind fun t102 => (some t102)) else ((wire_Get.f l1 a2).bind fun bt103 => ((tikref2_Get.f k l1 a2).bind fun bt106 => ((tiklaw2_first.f).bind fun t109 => (if t109 = true then ((wire_Var.f k a0).bind fun t110 => ((tikref2_Var.f k a0).bind fun t113 => ((tikref_Bytes.f t110 t113).bind fun t116 => (if t116 = true then (if bt103.1 = bt106.1 then (if bt103.2.1 = bt106.2.1 then (if bt103.2.2 = bt106.2.2 then ((wire_Crc.f k l1).bind fun t117 => ((tikref2_Crc.f k l1).bind fun t118 => (if t117 = t118 then ((wire_Four.f ((a0) % 4294967296)).bind fun t119 => ((tikref2_Four.f ((a0) % 4294967296)).bind fun t122 => ((tikref_Bytes.f t119 t122).bind fun t125 => (some t125)))) else (some false)))) else (some false)) else (some false)) else (some false)) else (some false))))) else (some false)))))) else (some false))
theorem tiklaw2_WireNumbers.mono : ∀ a0 a1 a2 k, LeO (tiklaw2_WireNumbers.f k a0 a1 a2) (tiklaw2_WireNumbers.f (k + 1) a0 a1 a2) := by
  intro a0 a1 a2 k
  unfold tiklaw2_WireNumbers.f
  repeat' first
      | (with_reducible exact tikref2_Crc.mono _ _)
      | (with_reducible exact tikref2_Get.mono _ _ _)
      | (with_reducible exact tikref2_Var.mono _ _)
      | (with_reducible exact wire_Crc.mono _ _)
      | (with_reducible exact wire_Var.mono _ _)
      | (with_reducible exact LeO.refl _)
      | (with_reducible exact LeO.none _)
      | (with_reducible refine LeO.ite ?_ ?_)
      | (with_reducible refine LeO.bind ?_ (fun _ => ?_))
      | exact tikref2_Crc.mono _ _
      | exact tikref2_Get.mono _ _ _
      | exact tikref2_Var.mono _ _
      | exact wire_Crc.mono _ _
      | exact wire_Var.mono _ _
      | exact LeO.none _
      | refine LeO.ite ?_ ?_
      | refine LeO.bind ?_ (fun _ => ?_)
set_option maxHeartbeats 8000000 in
set_option maxRecDepth 100000 in
theorem tiklaw2_WireNumbers.calls (k : Nat) (a0 : Int) (A1 : Option Addr) (c1 : Nat) (l1 : List Int) (a2 : Int) (r : Bool) (w : World) (hr1 : Kd.C (Kd.int .u8) w A1 l1.length l1) (hc1 : l1.length ≤ c1) (hr_ : Aside0 (r = true)) (h : tiklaw2_WireNumbers.f k a0 l1 a2 = some r) :
    Calls Try.prog 3 #[.int .u64 a0, .slice A1 l1.length c1, .int .i64 a2] w fun e w' => e = .returned (.bool r) ∧ Below w.heap.size w w' := by
  have HR1 := Aside0.mk hr1
  have HC1 := Aside0.mk hc1
  clear hr1 hc1
  have HB := Aside0.mk (Below.refl w.heap.size w)
  have H : ((tiklaw2_first.f).bind fun t101 => (if t101 = true then (if (l1.length : Int) > 2000 then ((tiklaw2_first.f).bind fun t102 => (some t102)) else ((wire_Get.f l1 a2).bind fun bt103 => ((tikref2_Get.f k l1 a2).bind fun bt106 => ((tiklaw2_first.f).bind fun t109 => (if t109 = true then ((wire_Var.f k a0).bind fun t110 => ((tikref2_Var.f k a0).bind fun t113 => ((tikref_Bytes.f t110 t113).bind fun t116 => (if t116 = true then (if bt103.1 = bt106.1 then (if bt103.2.1 = bt106.2.1 then (if bt103.2.2 = bt106.2.2 then ((wire_Crc.f k l1).bind fun t117 => ((tikref2_Crc.f k l1).bind fun t118 => (if t117 = t118 then ((wire_Four.f ((a0) % 4294967296)).bind fun t119 => ((tikref2_Four.f ((a0) % 4294967296)).bind fun t122 => ((tikref_Bytes.f t119 t122).bind fun t125 => (some t125)))) else (some false)))) else (some false)) else (some false)) else (some false)) else (some false))))) else (some false)))))) else (some false))) = some r := h
  clear h
  replace H := Option.bind_eq_some_iff.mp H
  obtain ⟨t101, A40, H⟩ := H
  replace H : (if t101 = true then (if (l1.length : Int) > 2000 then ((tiklaw2_first.f).bind fun t102 => (some t102)) else ((wire_Get.f l1 a2).bind fun bt103 => ((tikref2_Get.f k l1 a2).bind fun bt106 => ((tiklaw2_first.f).bind fun t109 => (if t109 = true then ((wire_Var.f k a0).bind fun t110 => ((tikref2_Var.f k a0).bind fun t113 => ((tikref_Bytes.f t110 t113).bind fun t116 => (if t116 = true then (if bt103.1 = bt106.1 then (if bt103.2.1 = bt106.2.1 then (if bt103.2.2 = bt106.2.2 then ((wire_Crc.f k l1).bind fun t117 => ((tikref2_Crc.f k l1).bind fun t118 => (if t117 = t118 then ((wire_Four.f ((a0) % 4294967296)).bind fun t119 => ((tikref2_Four.f ((a0) % 4294967296)).bind fun t122 => ((tikref_Bytes.f t119 t122).bind fun t125 => (some t125)))) else (some false)))) else (some false)) else (some false)) else (some false)) else (some false))))) else (some false)))))) else (some false)) = some r := H
  have A4 := Aside0.mk A40
  clear A40
  by_cases c5 : t101 = true
  · subst c5
    have H1 : (if (l1.length : Int) > 2000 then ((tiklaw2_first.f).bind fun t102 => (some t102)) else ((wire_Get.f l1 a2).bind fun bt103 => ((tikref2_Get.f k l1 a2).bind fun bt106 => ((tiklaw2_first.f).bind fun t109 => (if t109 = true then ((wire_Var.f k a0).bind fun t110 => ((tikref2_Var.f k a0).bind fun t113 => ((tikref_Bytes.f t110 t113).bind fun t116 => (if t116 = true then (if bt103.1 = bt106.1 then (if bt103.2.1 = bt106.2.1 then (if bt103.2.2 = bt106.2.2 then ((wire_Crc.f k l1).bind fun t117 => ((tikref2_Crc.f k l1).bind fun t118 => (if t117 = t118 then ((wire_Four.f ((a0) % 4294967296)).bind fun t119 => ((tikref2_Four.f ((a0) % 4294967296)).bind fun t122 => ((tikref_Bytes.f t119 t122).bind fun t125 => (some t125)))) else (some false)))) else (some false)) else (some false)) else (some false)) else (some false))))) else (some false)))))) = some r := by rw [if_pos rfl] at H; exact H
    clear H
    have H := H1
    clear H1
    by_cases c6 : (l1.length : Int) > 2000
    · rw [if_pos c6] at H
      have c6b0 : decide (2000 < (l1.length : Int)) = true := decide_eq_true c6
      have c6b1 : decide (2000 < l1.length) = true := decide_eq_true (by omega)
      clear c6
      replace H := Option.bind_eq_some_iff.mp H
      obtain ⟨t102, A70, H⟩ := H
      replace H : (some t102) = some r := H
      have A7 := Aside0.mk A70
      clear A70
      obtain rfl := Option.some.inj H
      go_enter Try.func3, Try.ntmps3
      go_wp2_with (first | ((with_reducible refine gate_callee (f := 9) rfl ?_); refine goesL_ (some 13) rfl rfl Try.func9 (by kernel_rfl) rfl #[] rfl (by (try simp only [List.map_toArray, List.map_cons, List.map_nil]); first | done | rfl | (simp only [List.length_drop, List.length_take]; rfl)) ?_; (with_reducible refine (tiklaw2_first.calls  true _ A4.out).mono ?_); rintro e w8 ⟨rfl, hb⟩; refine ⟨_, rfl, ?_⟩; have n0_ := Aside0.mk (below_step (by repeat (first | (with_reducible first | exact HB.out | apply below_alloc | apply pw_below_drewN | apply below_drew1) | exact HB.out)) hb); clear HB; have HB := n0_; clear n0_; (try clear hb); (try clear hb2); (try clear hk); (try clear hi)) | ((with_reducible refine gate_callee (f := 9) rfl ?_); refine goesL_ (some 18) rfl rfl Try.func9 (by kernel_rfl) rfl #[] rfl (by (try simp only [List.map_toArray, List.map_cons, List.map_nil]); first | done | rfl | (simp only [List.length_drop, List.length_take]; rfl)) ?_; (with_reducible refine (tiklaw2_first.calls  t102 _ A7.out).mono ?_); rintro e w9 ⟨rfl, hb⟩; refine ⟨_, rfl, ?_⟩; have n0_ := Aside0.mk (below_step (by repeat (first | (with_reducible first | exact HB.out | apply below_alloc | apply pw_below_drewN | apply below_drew1) | exact HB.out)) hb); clear HB; have HB := n0_; clear n0_; (try clear hb); (try clear hb2); (try clear hk); (try clear hi)))
      go_ret
      exact ⟨by first | rfl | (simp [errW_none, errW_some] <;> rfl) | (simp [*, errW_none, errW_some] <;> rfl), by repeat (first | (with_reducible first | exact HB.out | apply below_alloc | apply pw_below_drewN | apply below_drew1) | exact HB.out)⟩
    · rw [if_neg c6] at H
      have c6b0 : decide (2000 < (l1.length : Int)) = false := decide_eq_false c6
      have c6b1 : decide (2000 < l1.length) = false := decide_eq_false (by omega)
      clear c6
      replace H := Option.bind_eq_some_iff.mp H
      obtain ⟨⟨t103, t104, t105⟩, A100, H⟩ := H
      replace H : ((tikref2_Get.f k l1 a2).bind fun bt106 => ((tiklaw2_first.f).bind fun t109 => (if t109 = true then ((wire_Var.f k a0).bind fun t110 => ((tikref2_Var.f k a0).bind fun t113 => ((tikref_Bytes.f t110 t113).bind fun t116 => (if t116 = true then (if t103 = bt106.1 then (if t104 = bt106.2.1 then (if t105 = bt106.2.2 then ((wire_Crc.f k l1).bind fun t117 => ((tikref2_Crc.f k l1).bind fun t118 => (if t117 = t118 then ((wire_Four.f ((a0) % 4294967296)).bind fun t119 => ((tikref2_Four.f ((a0) % 4294967296)).bind fun t122 => ((tikref_Bytes.f t119 t122).bind fun t125 => (some t125)))) else (some false)))) else (some false)) else (some false)) else (some false)) else (some false))))) else (some false)))) = some r := H
      have A10 := Aside0.mk A100
      clear A100
      replace H := Option.bind_eq_some_iff.mp H
      obtain ⟨⟨t106, t107, t108⟩, A110, H⟩ := H
      replace H : ((tiklaw2_first.f).bind fun t109 => (if t109 = true then ((wire_Var.f k a0).bind fun t110 => ((tikref2_Var.f k a0).bind fun t113 => ((tikref_Bytes.f t110 t113).bind fun t116 => (if t116 = true then (if t103 = t106 then (if t104 = t107 then (if t105 = t108 then ((wire_Crc.f k l1).bind fun t117 => ((tikref2_Crc.f k l1).bind fun t118 => (if t117 = t118 then ((wire_Four.f ((a0) % 4294967296)).bind fun t119 => ((tikref2_Four.f ((a0) % 4294967296)).bind fun t122 => ((tikref_Bytes.f t119 t122).bind fun t125 => (some t125)))) else (some false)))) else (some false)) else (some false)) else (some false)) else (some false))))) else (some false))) = some r := H
      have A11 := Aside0.mk A110
      clear A110
      replace H := Option.bind_eq_some_iff.mp H
      obtain ⟨t109, A120, H⟩ := H
      replace H : (if t109 = true then ((wire_Var.f k a0).bind fun t110 => ((tikref2_Var.f k a0).bind fun t113 => ((tikref_Bytes.f t110 t113).bind fun t116 => (if t116 = true then (if t103 = t106 then (if t104 = t107 then (if t105 = t108 then ((wire_Crc.f k l1).bind fun t117 => ((tikref2_Crc.f k l1).bind fun t118 => (if t117 = t118 then ((wire_Four.f ((a0) % 4294967296)).bind fun t119 => ((tikref2_Four.f ((a0) % 4294967296)).bind fun t122 => ((tikref_Bytes.f t119 t122).bind fun t125 => (some t125)))) else (some false)))) else (some false)) else (some false)) else (some false)) else (some false))))) else (some false)) = some r := H
      have A12 := Aside0.mk A120
      clear A120
      by_cases c13 : t109 = true
      · subst c13
        have H1 : ((wire_Var.f k a0).bind fun t110 => ((tikref2_Var.f k a0).bind fun t113 => ((tikref_Bytes.f t110 t113).bind fun t116 => (if t116 = true then (if t103 = t106 then (if t104 = t107 then (if t105 = t108 then ((wire_Crc.f k l1).bind fun t117 => ((tikref2_Crc.f k l1).bind fun t118 => (if t117 = t118 then ((wire_Four.f ((a0) % 4294967296)).bind fun t119 => ((tikref2_Four.f ((a0) % 4294967296)).bind fun t122 => ((tikref_Bytes.f t119 t122).bind fun t125 => (some t125)))) else (some false)))) else (some false)) else (some false)) else (some false)) else (some false))))) = some r := by rw [if_pos rfl] at H; exact H
        clear H
        have H := H1
        clear H1
        replace H := Option.bind_eq_some_iff.mp H
        obtain ⟨t110, A140, H⟩ := H
        replace H : ((tikref2_Var.f k a0).bind fun t113 => ((tikref_Bytes.f t110 t113).bind fun t116 => (if t116 = true then (if t103 = t106 then (if t104 = t107 then (if t105 = t108 then ((wire_Crc.f k l1).bind fun t117 => ((tikref2_Crc.f k l1).bind fun t118 => (if t117 = t118 then ((wire_Four.f ((a0) % 4294967296)).bind fun t119 => ((tikref2_Four.f ((a0) % 4294967296)).bind fun t122 => ((tikref_Bytes.f t119 t122).bind fun t125 => (some t125)))) else (some false)))) else (some false)) else (some false)) else (some false)) else (some false)))) = some r := H
        have A14 := Aside0.mk A140
        clear A140
        replace H := Option.bind_eq_some_iff.mp H
        obtain ⟨t113, A150, H⟩ := H
        replace H : ((tikref_Bytes.f t110 t113).bind fun t116 => (if t116 = true then (if t103 = t106 then (if t104 = t107 then (if t105 = t108 then ((wire_Crc.f k l1).bind fun t117 => ((tikref2_Crc.f k l1).bind fun t118 => (if t117 = t118 then ((wire_Four.f ((a0) % 4294967296)).bind fun t119 => ((tikref2_Four.f ((a0) % 4294967296)).bind fun t122 => ((tikref_Bytes.f t119 t122).bind fun t125 => (some t125)))) else (some false)))) else (some false)) else (some false)) else (some false)) else (some false))) = some r := H
        have A15 := Aside0.mk A150
        clear A150
        replace H := Option.bind_eq_some_iff.mp H
        obtain ⟨t116, A160, H⟩ := H
        replace H : (if t116 = true then (if t103 = t106 then (if t104 = t107 then (if t105 = t108 then ((wire_Crc.f k l1).bind fun t117 => ((tikref2_Crc.f k l1).bind fun t118 => (if t117 = t118 then ((wire_Four.f ((a0) % 4294967296)).bind fun t119 => ((tikref2_Four.f ((a0) % 4294967296)).bind fun t122 => ((tikref_Bytes.f t119 t122).bind fun t125 => (some t125)))) else (some false)))) else (some false)) else (some false)) else (some false)) else (some false)) = some r := H
        have A16 := Aside0.mk A160
        clear A160
        by_cases c17 : t116 = true
        · subst c17
          have H1 : (if t103 = t106 then (if t104 = t107 then (if t105 = t108 then ((wire_Crc.f k l1).bind fun t117 => ((tikref2_Crc.f k l1).bind fun t118 => (if t117 = t118 then ((wire_Four.f ((a0) % 4294967296)).bind fun t119 => ((tikref2_Four.f ((a0) % 4294967296)).bind fun t122 => ((tikref_Bytes.f t119 t122).bind fun t125 => (some t125)))) else (some false)))) else (some false)) else (some false)) else (some false)) = some r := by rw [if_pos rfl] at H; exact H
          clear H
          have H := H1
          clear H1
          by_cases c18 : t103 = t106
          · rw [if_pos c18] at H
            have c18b0 : (t103 == t106) = true := beq_iff_eq.mpr c18
            have c18b1 : (t103 != t106) = false := bne_eq_false_iff_eq.mpr c18
            clear c18
            by_cases c19 : t104 = t107
            · rw [if_pos c19] at H
              have c19b0 : (t104 == t107) = true := beq_iff_eq.mpr c19
              have c19b1 : (t104 != t107) = false := bne_eq_false_iff_eq.mpr c19
              clear c19
              by_cases c20 : t105 = t108
              · rw [if_pos c20] at H
                have c20b0 : (t105 == t108) = true := beq_iff_eq.mpr c20
                have c20b1 : (t105 != t108) = false := bne_eq_false_iff_eq.mpr c20
                clear c20
                replace H := Option.bind_eq_some_iff.mp H
                obtain ⟨t117, A210, H⟩ := H
                replace H : ((tikref2_Crc.f k l1).bind fun t118 => (if t117 = t118 then ((wire_Four.f ((a0) % 4294967296)).bind fun t119 => ((tikref2_Four.f ((a0) % 4294967296)).bind fun t122 => ((tikref_Bytes.f t119 t122).bind fun t125 => (some t125)))) else (some false))) = some r := H
                have A21 := Aside0.mk A210
                clear A210
                replace H := Option.bind_eq_some_iff.mp H
                obtain ⟨t118, A220, H⟩ := H
                replace H : (if t117 = t118 then ((wire_Four.f ((a0) % 4294967296)).bind fun t119 => ((tikref2_Four.f ((a0) % 4294967296)).bind fun t122 => ((tikref_Bytes.f t119 t122).bind fun t125 => (some t125)))) else (some false)) = some r := H
                have A22 := Aside0.mk A220
                clear A220
                by_cases c23 : t117 = t118
                · rw [if_pos c23] at H
                  have c23b0 : (t117 == t118) = true := beq_iff_eq.mpr c23
                  have c23b1 : (t117 != t118) = false := bne_eq_false_iff_eq.mpr c23
                  clear c23
                  replace H := Option.bind_eq_some_iff.mp H
                  obtain ⟨t119, A240, H⟩ := H
                  replace H : ((tikref2_Four.f ((a0) % 4294967296)).bind fun t122 => ((tikref_Bytes.f t119 t122).bind fun t125 => (some t125))) = some r := H
                  have A24 := Aside0.mk A240
                  clear A240
                  replace H := Option.bind_eq_some_iff.mp H
                  obtain ⟨t122, A250, H⟩ := H
                  replace H : ((tikref_Bytes.f t119 t122).bind fun t125 => (some t125)) = some r := H
                  have A25 := Aside0.mk A250
                  clear A250
                  replace H := Option.bind_eq_some_iff.mp H
                  obtain ⟨t125, A260, H⟩ := H
                  replace H : (some t125) = some r := H
                  have A26 := Aside0.mk A260
                  clear A260
                  obtain rfl := Option.some.inj H
                  go_enter Try.func3, Try.ntmps3
                  go_wp2_with (first | ((with_reducible refine gate_callee (f := 9) rfl ?_); refine goesL_ (some 13) rfl rfl Try.func9 (by kernel_rfl) rfl #[] rfl (by (try simp only [List.map_toArray, List.map_cons, List.map_nil]); first | done | rfl | (simp only [List.length_drop, List.length_take]; rfl)) ?_; (with_reducible refine (tiklaw2_first.calls  true _ A4.out).mono ?_); rintro e w27 ⟨rfl, hb⟩; refine ⟨_, rfl, ?_⟩; have n0_ := Aside0.mk (below_step (by repeat (first | (with_reducible first | exact HB.out | apply below_alloc | apply pw_below_drewN | apply below_drew1) | exact HB.out)) hb); clear HB; have HB := n0_; clear n0_; (try clear hb); (try clear hb2); (try clear hk); (try clear hi)) | ((with_reducible refine gate_callee (f := 10) rfl ?_); refine goesL_ (some 22) rfl rfl Try.func10 (by kernel_rfl) rfl #[.slice A1 l1.length c1, .int .i64 a2] rfl (by (try simp only [List.map_toArray, List.map_cons, List.map_nil]); first | done | rfl | (simp only [List.length_drop, List.length_take]; rfl)) ?_; (with_reducible refine (wire_Get.calls _ _ l1 a2 t103 t104 t105 _ ?side1 ?side2 A10.out).mono ?_); (case side1 => repeat (first | exact (Kd.C_below HR1.out HB.out) | (with_reducible refine Kd.C_alloc ?_ _) | (with_reducible refine Kd.C_drewN ?_ _) | (with_reducible refine Kd.C_drew ?_))); (case side2 => exact HC1.out); rintro e w28 ⟨rfl, hb⟩; refine ⟨_, rfl, ?_⟩; have n0_ := Aside0.mk (below_step (by repeat (first | (with_reducible first | exact HB.out | apply below_alloc | apply pw_below_drewN | apply below_drew1) | exact HB.out)) hb); clear HB; have HB := n0_; clear n0_; (try clear hb); (try clear hb2); (try clear hk); (try clear hi)) | ((with_reducible refine gate_callee (f := 11) rfl ?_); refine goesL_ (some 29) rfl rfl Try.func11 (by kernel_rfl) rfl #[.slice A1 l1.length c1, .int .i64 a2] rfl (by (try simp only [List.map_toArray, List.map_cons, List.map_nil]); first | done | rfl | (simp only [List.length_drop, List.length_take]; rfl)) ?_; (with_reducible refine (tikref2_Get.calls k _ _ l1 a2 t106 t107 t108 _ ?side1 ?side2 A11.out).mono ?_); (case side1 => repeat (first | exact (Kd.C_below HR1.out HB.out) | (with_reducible refine Kd.C_alloc ?_ _) | (with_reducible refine Kd.C_drewN ?_ _) | (with_reducible refine Kd.C_drew ?_))); (case side2 => exact HC1.out); rintro e w' ⟨rfl, ⟨nd, rfl⟩⟩; refine ⟨_, rfl, ?_⟩) | ((with_reducible refine gate_callee (f := 9) rfl ?_); refine goesL_ (some 33) rfl rfl Try.func9 (by kernel_rfl) rfl #[] rfl (by (try simp only [List.map_toArray, List.map_cons, List.map_nil]); first | done | rfl | (simp only [List.length_drop, List.length_take]; rfl)) ?_; (with_reducible refine (tiklaw2_first.calls  true _ A12.out).mono ?_); rintro e w29 ⟨rfl, hb⟩; refine ⟨_, rfl, ?_⟩; have n0_ := Aside0.mk (below_step (by repeat (first | (with_reducible first | exact HB.out | apply below_alloc | apply pw_below_drewN | apply below_drew1) | exact HB.out)) hb); clear HB; have HB := n0_; clear n0_; (try clear hb); (try clear hb2); (try clear hk); (try clear hi)) | (go_at_call 13; (with_reducible refine (wire_Var.calls k a0 t110 _ A14.out).mono ?_); rintro e w30 ⟨v111, rfl, ho0, hb⟩; have n0_ := Aside0.mk (Kd.R_lower ho0 (below_size (by repeat (first | (with_reducible first | exact HB.out | apply below_alloc | apply pw_below_drewN | apply below_drew1) | exact HB.out)))); have n1_ := Aside0.mk (below_step (by repeat (first | (with_reducible first | exact HB.out | apply below_alloc | apply pw_below_drewN | apply below_drew1) | exact HB.out)) hb); clear HB; have HO112 := n0_; have HB := n1_; clear n0_ n1_; (try clear hb); (try clear hb2); (try clear hk); (try clear hi); (try clear ho0)) | (go_at_call 14; (with_reducible refine (tikref2_Var.calls k a0 t113 _ A15.out).mono ?_); rintro e w31 ⟨v114, rfl, ho0, hb⟩; have n0_ := Aside0.mk (Kd.R_elder' (by (with_reducible repeat (first | apply Kd.R_alloc | apply Kd.R_drewN | apply Kd.R_drew)); exact HO112.out) (Kd.R_base ho0) hb); have n1_ := Aside0.mk (Kd.R_lower (Kd.R_new' ho0 (Kd.R_lt (by (with_reducible repeat (first | apply Kd.R_alloc | apply Kd.R_drewN | apply Kd.R_drew)); exact HO112.out))) (below_size (by repeat (first | (with_reducible first | exact HB.out | apply below_alloc | apply pw_below_drewN | apply below_drew1) | exact HB.out)))); have n2_ := Aside0.mk (below_step (by repeat (first | (with_reducible first | exact HB.out | apply below_alloc | apply pw_below_drewN | apply below_drew1) | exact HB.out)) hb); clear HO112; clear HB; have HO112 := n0_; have HO115 := n1_; have HB := n2_; clear n0_ n1_ n2_; (try clear hb); (try clear hb2); (try clear hk); (try clear hi); (try clear ho0); obtain ⟨Ao32, co32, eo32⟩ := Kd.R_slice HO112.out; subst eo32; obtain ⟨Ao33, co33, eo33⟩ := Kd.R_slice HO115.out; subst eo33) | (go_at_call 12; (with_reducible refine (tikref_Bytes.calls _ _ t110 _ _ t113 true _ ?side1 ?side2 ?side3 ?side4 A16.out).mono ?_); (case side1 => repeat (first | exact (Kd.R_reads' HO112.out).2.2 | (with_reducible refine Kd.C_alloc ?_ _) | (with_reducible refine Kd.C_drewN ?_ _) | (with_reducible refine Kd.C_drew ?_))); (case side2 => exact (Kd.R_reads' HO112.out).2.1); (case side3 => repeat (first | exact (Kd.R_reads' HO115.out).2.2 | (with_reducible refine Kd.C_alloc ?_ _) | (with_reducible refine Kd.C_drewN ?_ _) | (with_reducible refine Kd.C_drew ?_))); (case side4 => exact (Kd.R_reads' HO115.out).2.1); rintro e w' ⟨rfl, ⟨nd, rfl⟩⟩) | (go_at_call 15; (with_reducible refine (wire_Crc.calls k _ _ l1 t117 _ ?side1 ?side2 A21.out).mono ?_); (case side1 => repeat (first | exact (Kd.C_below HR1.out (by repeat (first | (with_reducible first | exact HB.out | apply below_alloc | apply pw_below_drewN | apply below_drew1) | exact HB.out))) | (with_reducible refine Kd.C_alloc ?_ _) | (with_reducible refine Kd.C_drewN ?_ _) | (with_reducible refine Kd.C_drew ?_))); (case side2 => exact HC1.out); rintro e w' ⟨rfl, ⟨nd, rfl⟩⟩) | (go_at_call 16; (with_reducible refine (tikref2_Crc.calls k _ _ l1 t118 _ ?side1 ?side2 A22.out).mono ?_); (case side1 => repeat (first | exact (Kd.C_below HR1.out (by repeat (first | (with_reducible first | exact HB.out | apply below_alloc | apply pw_below_drewN | apply below_drew1) | exact HB.out))) | (with_reducible refine Kd.C_alloc ?_ _) | (with_reducible refine Kd.C_drewN ?_ _) | (with_reducible refine Kd.C_drew ?_))); (case side2 => exact HC1.out); rintro e w' ⟨rfl, ⟨nd, rfl⟩⟩) | (go_at_call 17; (with_reducible refine (wire_Four.calls ((a0) % 4294967296) t119 _ A24.out).mono ?_); rintro e w34 ⟨v120, rfl, ho0, hb⟩; have n0_ := Aside0.mk (Kd.R_elder' (by (with_reducible repeat (first | apply Kd.R_alloc | apply Kd.R_drewN | apply Kd.R_drew)); exact HO112.out) (Kd.R_base ho0) hb); have n1_ := Aside0.mk (Kd.R_elder' (by (with_reducible repeat (first | apply Kd.R_alloc | apply Kd.R_drewN | apply Kd.R_drew)); exact HO115.out) (Kd.R_base ho0) hb); have n2_ := Aside0.mk (Kd.R_lower (Kd.R_new' (Kd.R_new' ho0 (Kd.R_lt (by (with_reducible repeat (first | apply Kd.R_alloc | apply Kd.R_drewN | apply Kd.R_drew)); exact HO112.out))) (Kd.R_lt (by (with_reducible repeat (first | apply Kd.R_alloc | apply Kd.R_drewN | apply Kd.R_drew)); exact HO115.out))) (below_size (by repeat (first | (with_reducible first | exact HB.out | apply below_alloc | apply pw_below_drewN | apply below_drew1) | exact HB.out)))); have n3_ := Aside0.mk (below_step (by repeat (first | (with_reducible first | exact HB.out | apply below_alloc | apply pw_below_drewN | apply below_drew1) | exact HB.out)) hb); clear HO112; clear HO115; clear HB; have HO112 := n0_; have HO115 := n1_; have HO121 := n2_; have HB := n3_; clear n0_ n1_ n2_ n3_; (try clear hb); (try clear hb2); (try clear hk); (try clear hi); (try clear ho0)) | (go_at_call 18; (with_reducible refine (tikref2_Four.calls ((a0) % 4294967296) t122 _ A25.out).mono ?_); rintro e w35 ⟨v123, rfl, ho0, hb⟩; have n0_ := Aside0.mk (Kd.R_elder' (by (with_reducible repeat (first | apply Kd.R_alloc | apply Kd.R_drewN | apply Kd.R_drew)); exact HO112.out) (Kd.R_base ho0) hb); have n1_ := Aside0.mk (Kd.R_elder' (by (with_reducible repeat (first | apply Kd.R_alloc | apply Kd.R_drewN | apply Kd.R_drew)); exact HO115.out) (Kd.R_base ho0) hb); have n2_ := Aside0.mk (Kd.R_elder' (by (with_reducible repeat (first | apply Kd.R_alloc | apply Kd.R_drewN | apply Kd.R_drew)); exact HO121.out) (Kd.R_base ho0) hb); have n3_ := Aside0.mk (Kd.R_lower (Kd.R_new' (Kd.R_new' (Kd.R_new' ho0 (Kd.R_lt (by (with_reducible repeat (first | apply Kd.R_alloc | apply Kd.R_drewN | apply Kd.R_drew)); exact HO112.out))) (Kd.R_lt (by (with_reducible repeat (first | apply Kd.R_alloc | apply Kd.R_drewN | apply Kd.R_drew)); exact HO115.out))) (Kd.R_lt (by (with_reducible repeat (first | apply Kd.R_alloc | apply Kd.R_drewN | apply Kd.R_drew)); exact HO121.out))) (below_size (by repeat (first | (with_reducible first | exact HB.out | apply below_alloc | apply pw_below_drewN | apply below_drew1) | exact HB.out)))); have n4_ := Aside0.mk (below_step (by repeat (first | (with_reducible first | exact HB.out | apply below_alloc | apply pw_below_drewN | apply below_drew1) | exact HB.out)) hb); clear HO112; clear HO115; clear HO121; clear HB; have HO112 := n0_; have HO115 := n1_; have HO121 := n2_; have HO124 := n3_; have HB := n4_; clear n0_ n1_ n2_ n3_ n4_; (try clear hb); (try clear hb2); (try clear hk); (try clear hi); (try clear ho0); obtain ⟨Ao36, co36, eo36⟩ := Kd.R_slice HO121.out; subst eo36; obtain ⟨Ao37, co37, eo37⟩ := Kd.R_slice HO124.out; subst eo37) | (go_at_call 12; (with_reducible refine (tikref_Bytes.calls _ _ t119 _ _ t122 t125 _ ?side1 ?side2 ?side3 ?side4 A26.out).mono ?_); (case side1 => repeat (first | exact (Kd.R_reads' HO121.out).2.2 | (with_reducible refine Kd.C_alloc ?_ _) | (with_reducible refine Kd.C_drewN ?_ _) | (with_reducible refine Kd.C_drew ?_))); (case side2 => exact (Kd.R_reads' HO121.out).2.1); (case side3 => repeat (first | exact (Kd.R_reads' HO124.out).2.2 | (with_reducible refine Kd.C_alloc ?_ _) | (with_reducible refine Kd.C_drewN ?_ _) | (with_reducible refine Kd.C_drew ?_))); (case side4 => exact (Kd.R_reads' HO124.out).2.1); rintro e w' ⟨rfl, ⟨nd, rfl⟩⟩))
                  go_ret
                  exact ⟨by first | rfl | (simp [errW_none, errW_some] <;> rfl) | (simp [*, errW_none, errW_some] <;> rfl), by repeat (first | (with_reducible first | exact HB.out | apply below_alloc | apply pw_below_drewN | apply below_drew1) | exact HB.out)⟩
                · rw [if_neg c23] at H
                  have c23b0 : (t117 == t118) = false := beq_eq_false_iff_ne.mpr c23
                  have c23b1 : (t117 != t118) = true := bne_iff_ne.mpr c23
                  exact absurd ((Option.some.inj H).trans hr_.out) (by simp)
              · rw [if_neg c20] at H
                have c20b0 : (t105 == t108) = false := beq_eq_false_iff_ne.mpr c20
                have c20b1 : (t105 != t108) = true := bne_iff_ne.mpr c20
                exact absurd ((Option.some.inj H).trans hr_.out) (by simp)
            · rw [if_neg c19] at H
              have c19b0 : (t104 == t107) = false := beq_eq_false_iff_ne.mpr c19
              have c19b1 : (t104 != t107) = true := bne_iff_ne.mpr c19
              exact absurd ((Option.some.inj H).trans hr_.out) (by simp)
          · rw [if_neg c18] at H
            have c18b0 : (t103 == t106) = false := beq_eq_false_iff_ne.mpr c18
            have c18b1 : (t103 != t106) = true := bne_iff_ne.mpr c18
            exact absurd ((Option.some.inj H).trans hr_.out) (by simp)
        · replace c17 := Bool.eq_false_iff.mpr c17
          subst c17
          have H1 : (some false) = some r := by rw [if_neg (show ¬ (false = true) by decide)] at H; exact H
          clear H
          have H := H1
          clear H1
          exact absurd ((Option.some.inj H).trans hr_.out) (by simp)
      · replace c13 := Bool.eq_false_iff.mpr c13
        subst c13
        have H1 : (some false) = some r := by rw [if_neg (show ¬ (false = true) by decide)] at H; exact H
        clear H
        have H := H1
        clear H1
        exact absurd ((Option.some.inj H).trans hr_.out) (by simp)
  · replace c5 := Bool.eq_false_iff.mpr c5
    subst c5
    have H1 : (some false) = some r := by rw [if_neg (show ¬ (false = true) by decide)] at H; exact H
    clear H
    have H := H1
    clear H1
    exact absurd ((Option.some.inj H).trans hr_.out) (by simp)

end Go.Proofs.Ytabljieejnhefaa.PB
