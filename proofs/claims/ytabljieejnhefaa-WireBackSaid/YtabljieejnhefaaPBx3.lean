-- written for this claim by mp.py (this repo), with the kit's print; checked by the kernel alone
import Derived.Test.YtabljieejnhefaaPBx0
namespace Go.Proofs.Ytabljieejnhefaa.PB
open Go.RowKit Go.Proofs.YtabljieejnhefaaW.PrintWords Go.Proofs.YtabljieejnhefaaW.PrintLast Go.Proofs.YtabljieejnhefaaW.PrintMore
attribute [local go_sem] max2_int min2_int max_two min_two max_three min_three max_four min_four   -- for this text's walks alone
open Go.Proofs.Ytabljieejnhefaa.Hand
open Go.Proofs.Ytabljieejnhefaa.PA
set_option linter.unusedVariables false
set_option linter.unusedSimpArgs false

/-! ### tiklaw2_WireFronts: function 5 -/
mutual
def tiklaw2_WireFronts.j0 : Nat → List Int → List Int → Int → Bool → Option (Bool)
  | 0, _, _, _, _ => none
  | k + 1, x0, x1, x2, x31 => if x31 = true then ((tiklaw2_first.f).bind fun t148 => (some t148)) else ((wire_Var.f k x2).bind fun t149 => ((tikref_CopyBytes.f x0).bind fun t152 => (if t152.length + t149.length < 140737488355328 then ((some (t152 ++ t149 : List Int)).bind fun y155 => (if y155.length + x1.length < 140737488355328 then ((some (y155 ++ x1 : List Int)).bind fun y158 => ((wire_Get.f y158 (x0.length : Int)).bind fun bt161 => (if bt161.2.2 = 0 then (if bt161.1 = x2 then (if bt161.2.1 = (wrap64 ((x0.length : Int) + (t149.length : Int))) then (tiklaw2_WireFronts.j1 k t149 y158 (decide ((t149.length : Int) < 1))) else (tiklaw2_WireFronts.j1 k t149 y158 true)) else (tiklaw2_WireFronts.j1 k t149 y158 true)) else (tiklaw2_WireFronts.j1 k t149 y158 true)))) else (none))) else (none))))
def tiklaw2_WireFronts.j1 : Nat → List Int → List Int → Bool → Option (Bool)
  | 0, _, _, _ => none
  | k + 1, x7, x8, x69 => if x69 = true then (some false) else ((tikref_CopyBytes.f x7).bind fun t164 => (if 0 ≤ (wrap64 ((t164.length : Int) - 1)) then (if (wrap64 ((t164.length : Int) - 1)) < (t164.length : Int) then ((some (t164.set ((wrap64 ((t164.length : Int) - 1)) : Int).toNat (Go.bits .or .u8 (rd t164 (wrap64 ((t164.length : Int) - 1))) 128) : List Int)).bind fun y168 => (if y168.length < 140737488355328 then ((wire_Get.f (y168 ++ [0]) 0).bind fun bt172 => ((wire_Get.f x8 (-1)).bind fun bt175 => ((wire_Get.f x8 (wrap64 ((x8.length : Int) + 1))).bind fun bt178 => ((tiklaw2_first.f).bind fun t181 => (if t181 = true then (if bt172.2.2 = 2 then (if bt175.2.2 = 1 then (some (bt178.2.2 == 1)) else (some false)) else (some false)) else (some false)))))) else (none))) else (none)) else (none)))
end
def tiklaw2_WireFronts.f (k : Nat) (l0 : List Int) (l1 : List Int) (a2 : Int) : Option (Bool) := (tiklaw2_first.f).bind fun t147 => (if t147 = true then (if (l0.length : Int) > 500 then (tiklaw2_WireFronts.j0 k l0 l1 a2 true) else (tiklaw2_WireFronts.j0 k l0 l1 a2 (decide ((l1.length : Int) > 500)))) else (some false))
theorem tiklaw2_WireFronts.mono_l : ∀ k, (∀ y0 y1 y2 y3, LeO (tiklaw2_WireFronts.j0 k y0 y1 y2 y3) (tiklaw2_WireFronts.j0 (k + 1) y0 y1 y2 y3)) ∧ (∀ y0 y1 y2, LeO (tiklaw2_WireFronts.j1 k y0 y1 y2) (tiklaw2_WireFronts.j1 (k + 1) y0 y1 y2))
  | 0 => ⟨fun _ _ _ _ r h => by simp [tiklaw2_WireFronts.j0] at h, fun _ _ _ r h => by simp [tiklaw2_WireFronts.j1] at h⟩
  | k + 1 => by
    obtain ⟨ih0, ih1⟩ := tiklaw2_WireFronts.mono_l k
    refine ⟨?_, ?_⟩
    · intro y0 y1 y2 y3
      unfold tiklaw2_WireFronts.j0
      repeat' first
      | (with_reducible exact ih0 _ _ _ _)
      | (with_reducible exact ih1 _ _ _)
      | (with_reducible exact wire_Var.mono _ _)
      | (with_reducible exact LeO.refl _)
      | (with_reducible exact LeO.none _)
      | (with_reducible refine LeO.ite ?_ ?_)
      | (with_reducible refine LeO.bind ?_ (fun _ => ?_))
      | exact ih0 _ _ _ _
      | exact ih1 _ _ _
      | exact wire_Var.mono _ _
      | exact LeO.none _
      | refine LeO.ite ?_ ?_
      | refine LeO.bind ?_ (fun _ => ?_)
    · intro y0 y1 y2
      unfold tiklaw2_WireFronts.j1
      repeat' first
      | (with_reducible exact ih0 _ _ _ _)
      | (with_reducible exact ih1 _ _ _)
      | (with_reducible exact wire_Var.mono _ _)
      | (with_reducible exact LeO.refl _)
      | (with_reducible exact LeO.none _)
      | (with_reducible refine LeO.ite ?_ ?_)
      | (with_reducible refine LeO.bind ?_ (fun _ => ?_))
      | exact ih0 _ _ _ _
      | exact ih1 _ _ _
      | exact wire_Var.mono _ _
      | exact LeO.none _
      | refine LeO.ite ?_ ?_
      | refine LeO.bind ?_ (fun _ => ?_)
theorem tiklaw2_WireFronts.mono : ∀ a0 a1 a2 k, LeO (tiklaw2_WireFronts.f k a0 a1 a2) (tiklaw2_WireFronts.f (k + 1) a0 a1 a2) := by
  intro a0 a1 a2 k
  obtain ⟨ih0, ih1⟩ := tiklaw2_WireFronts.mono_l k
  unfold tiklaw2_WireFronts.f
  repeat' first
      | (with_reducible exact ih0 _ _ _ _)
      | (with_reducible exact ih1 _ _ _)
      | (with_reducible exact wire_Var.mono _ _)
      | (with_reducible exact LeO.refl _)
      | (with_reducible exact LeO.none _)
      | (with_reducible refine LeO.ite ?_ ?_)
      | (with_reducible refine LeO.bind ?_ (fun _ => ?_))
      | exact ih0 _ _ _ _
      | exact ih1 _ _ _
      | exact wire_Var.mono _ _
      | exact LeO.none _
      | refine LeO.ite ?_ ?_
      | refine LeO.bind ?_ (fun _ => ?_)
set_option maxHeartbeats 8000000 in
set_option maxRecDepth 100000 in
theorem tiklaw2_WireFronts.calls (k : Nat) (A0 : Option Addr) (c0 : Nat) (l0 : List Int) (A1 : Option Addr) (c1 : Nat) (l1 : List Int) (a2 : Int) (r : Bool) (w : World) (hr0 : Kd.C (Kd.int .u8) w A0 l0.length l0) (hc0 : l0.length ≤ c0) (hr1 : Kd.C (Kd.int .u8) w A1 l1.length l1) (hc1 : l1.length ≤ c1) (hr_ : Aside0 (r = true)) (h : tiklaw2_WireFronts.f k l0 l1 a2 = some r) :
    Calls Try.prog 5 #[.slice A0 l0.length c0, .slice A1 l1.length c1, .int .u64 a2] w fun e w' => e = .returned (.bool r) ∧ Below w.heap.size w w' := by
  have HR0 := Aside0.mk hr0
  have HC0 := Aside0.mk hc0
  clear hr0 hc0
  have HR1 := Aside0.mk hr1
  have HC1 := Aside0.mk hc1
  clear hr1 hc1
  have HB := Aside0.mk (Below.refl w.heap.size w)
  have H : ((tiklaw2_first.f).bind fun t147 => (if t147 = true then (if (l0.length : Int) > 500 then (tiklaw2_WireFronts.j0 k l0 l1 a2 true) else (tiklaw2_WireFronts.j0 k l0 l1 a2 (decide ((l1.length : Int) > 500)))) else (some false))) = some r := h
  clear h
  replace H := Option.bind_eq_some_iff.mp H
  obtain ⟨t147, A40, H⟩ := H
  replace H : (if t147 = true then (if (l0.length : Int) > 500 then (tiklaw2_WireFronts.j0 k l0 l1 a2 true) else (tiklaw2_WireFronts.j0 k l0 l1 a2 (decide ((l1.length : Int) > 500)))) else (some false)) = some r := H
  have A4 := Aside0.mk A40
  clear A40
  by_cases c5 : t147 = true
  · subst c5
    have H1 : (if (l0.length : Int) > 500 then (tiklaw2_WireFronts.j0 k l0 l1 a2 true) else (tiklaw2_WireFronts.j0 k l0 l1 a2 (decide ((l1.length : Int) > 500)))) = some r := by rw [if_pos rfl] at H; exact H
    clear H
    have H := H1
    clear H1
    have HC6 := Aside0.mk H
    clear H
    go_enter Try.func5, Try.ntmps5
    go_upto_region 3 with (first | ((with_reducible refine gate_callee (f := 9) rfl ?_); refine goesL_ (some 22) rfl rfl Try.func9 (by kernel_rfl) rfl #[] rfl (by (try simp only [List.map_toArray, List.map_cons, List.map_nil]); first | done | rfl | (simp only [List.length_drop, List.length_take]; rfl)) ?_; (with_reducible refine (tiklaw2_first.calls  true _ A4.out).mono ?_); rintro e w7 ⟨rfl, hb⟩; refine ⟨_, rfl, ?_⟩; have n0_ := Aside0.mk (below_step (by repeat (first | (with_reducible first | exact HB.out | apply below_alloc | apply pw_below_drewN | apply below_drew1) | exact HB.out)) hb); clear HB; have HB := n0_; clear n0_; (try clear hb); (try clear hb2); (try clear hk); (try clear hi)))
    (try simp only [Act.put, List.setIfInBounds_toArray, List.set_cons_zero, List.set_cons_succ])
    go_cut [31] (fun v31 wc => ∃ (kq : Nat) (x31_5 : Bool), v31 = .bool x31_5 ∧ Aside0 (tiklaw2_WireFronts.j0 kq l0 l1 a2 x31_5 = some r) ∧ Aside0 (kq ≤ k) ∧ Aside0 (Below w.heap.size w wc))
    case first =>
      have H := HC6.out
      clear HC6
      by_cases c8 : (l0.length : Int) > 500
      · rw [if_pos c8] at H
        have c8b0 : decide (500 < (l0.length : Int)) = true := decide_eq_true c8
        have c8b1 : decide (500 < l0.length) = true := decide_eq_true (by omega)
        clear c8
        (first | rw [c8b0] | (simp only [i64_w, i32_w]; rw [c8b0]) | skip)
        have H' := Aside0.mk H
        clear H
        go_wp2
        go_meet
        case rel => exact ⟨_, (true), (by first | rfl | (simp; done) | (simp [*]; done)), H', ⟨by first | omega | exact Nat.le_refl _⟩, ⟨by repeat (first | (with_reducible first | exact HB.out | apply below_alloc | apply pw_below_drewN | apply below_drew1) | exact HB.out)⟩⟩
      · rw [if_neg c8] at H
        have c8b0 : decide (500 < (l0.length : Int)) = false := decide_eq_false c8
        have c8b1 : decide (500 < l0.length) = false := decide_eq_false (by omega)
        clear c8
        (first | rw [c8b0] | (simp only [i64_w, i32_w]; rw [c8b0]) | skip)
        have H' := Aside0.mk H
        clear H
        go_wp2
        go_meet
        case rel => exact ⟨_, (decide ((l1.length : Int) > 500)), (by first | rfl | (simp; done) | (simp [*]; done)), H', ⟨by first | omega | exact Nat.le_refl _⟩, ⟨by repeat (first | (with_reducible first | exact HB.out | apply below_alloc | apply pw_below_drewN | apply below_drew1) | exact HB.out)⟩⟩
    case rest =>
      clear HC6
      try clear c1
      try clear p2
      try clear c5
      try clear c8
      try clear c8b0
      try clear c8b1
      obtain ⟨kq, x31_5, rfl, HA, HJ5, HB⟩ := hcut
      cases kq with
      | zero => exact absurd HA.out (by simp [tiklaw2_WireFronts.j0])
      | succ kj5 =>
        have H := HA.out
        clear HA
        simp only [tiklaw2_WireFronts.j0] at H
        by_cases c9 : x31_5 = true
        · subst c9
          have H1 : ((tiklaw2_first.f).bind fun t148 => (some t148)) = some r := by rw [if_pos rfl] at H; exact H
          clear H
          have H := H1
          clear H1
          replace H := Option.bind_eq_some_iff.mp H
          obtain ⟨t148, A100, H⟩ := H
          replace H : (some t148) = some r := H
          have A10 := Aside0.mk A100
          clear A100
          obtain rfl := Option.some.inj H
          go_wp2_with (first | ((with_reducible refine gate_callee (f := 9) rfl ?_); refine goesL_ (some 32) rfl rfl Try.func9 (by kernel_rfl) rfl #[] rfl (by (try simp only [List.map_toArray, List.map_cons, List.map_nil]); first | done | rfl | (simp only [List.length_drop, List.length_take]; rfl)) ?_; (with_reducible refine (tiklaw2_first.calls  t148 _ A10.out).mono ?_); rintro e w11 ⟨rfl, hb⟩; refine ⟨_, rfl, ?_⟩; have n0_ := Aside0.mk (below_step (by repeat (first | (with_reducible first | exact HB.out | apply below_alloc | apply pw_below_drewN | apply below_drew1) | exact HB.out)) hb); clear HB; have HB := n0_; clear n0_; (try clear hb); (try clear hb2); (try clear hk); (try clear hi)))
          go_ret
          exact ⟨by first | rfl | (simp [errW_none, errW_some] <;> rfl) | (simp [*, errW_none, errW_some] <;> rfl), by repeat (first | (with_reducible first | exact HB.out | apply below_alloc | apply pw_below_drewN | apply below_drew1) | exact HB.out)⟩
        · replace c9 := Bool.eq_false_iff.mpr c9
          subst c9
          have H1 : ((wire_Var.f kj5 a2).bind fun t149 => ((tikref_CopyBytes.f l0).bind fun t152 => (if t152.length + t149.length < 140737488355328 then ((some (t152 ++ t149 : List Int)).bind fun y155 => (if y155.length + l1.length < 140737488355328 then ((some (y155 ++ l1 : List Int)).bind fun y158 => ((wire_Get.f y158 (l0.length : Int)).bind fun bt161 => (if bt161.2.2 = 0 then (if bt161.1 = a2 then (if bt161.2.1 = (wrap64 ((l0.length : Int) + (t149.length : Int))) then (tiklaw2_WireFronts.j1 kj5 t149 y158 (decide ((t149.length : Int) < 1))) else (tiklaw2_WireFronts.j1 kj5 t149 y158 true)) else (tiklaw2_WireFronts.j1 kj5 t149 y158 true)) else (tiklaw2_WireFronts.j1 kj5 t149 y158 true)))) else (none))) else (none)))) = some r := by rw [if_neg (show ¬ (false = true) by decide)] at H; exact H
          clear H
          have H := H1
          clear H1
          replace H := Option.bind_eq_some_iff.mp H
          obtain ⟨t149, A120, H⟩ := H
          replace H : ((tikref_CopyBytes.f l0).bind fun t152 => (if t152.length + t149.length < 140737488355328 then ((some (t152 ++ t149 : List Int)).bind fun y155 => (if y155.length + l1.length < 140737488355328 then ((some (y155 ++ l1 : List Int)).bind fun y158 => ((wire_Get.f y158 (l0.length : Int)).bind fun bt161 => (if bt161.2.2 = 0 then (if bt161.1 = a2 then (if bt161.2.1 = (wrap64 ((l0.length : Int) + (t149.length : Int))) then (tiklaw2_WireFronts.j1 kj5 t149 y158 (decide ((t149.length : Int) < 1))) else (tiklaw2_WireFronts.j1 kj5 t149 y158 true)) else (tiklaw2_WireFronts.j1 kj5 t149 y158 true)) else (tiklaw2_WireFronts.j1 kj5 t149 y158 true)))) else (none))) else (none))) = some r := H
          have A12 := Aside0.mk A120
          clear A120
          replace H := Option.bind_eq_some_iff.mp H
          obtain ⟨t152, A130, H⟩ := H
          replace H : (if t152.length + t149.length < 140737488355328 then ((some (t152 ++ t149 : List Int)).bind fun y155 => (if y155.length + l1.length < 140737488355328 then ((some (y155 ++ l1 : List Int)).bind fun y158 => ((wire_Get.f y158 (l0.length : Int)).bind fun bt161 => (if bt161.2.2 = 0 then (if bt161.1 = a2 then (if bt161.2.1 = (wrap64 ((l0.length : Int) + (t149.length : Int))) then (tiklaw2_WireFronts.j1 kj5 t149 y158 (decide ((t149.length : Int) < 1))) else (tiklaw2_WireFronts.j1 kj5 t149 y158 true)) else (tiklaw2_WireFronts.j1 kj5 t149 y158 true)) else (tiklaw2_WireFronts.j1 kj5 t149 y158 true)))) else (none))) else (none)) = some r := H
          have A13 := Aside0.mk A130
          clear A130
          by_cases c14 : t152.length + t149.length < 140737488355328
          · rw [if_pos c14] at H
            have LMc14 := Aside0.mk c14
            clear c14
            obtain ⟨y155, hy155⟩ : ∃ y_ : List Int, y_ = (t152 ++ t149) := ⟨_, rfl⟩
            replace H : (if y155.length + l1.length < 140737488355328 then ((some (y155 ++ l1 : List Int)).bind fun y158 => ((wire_Get.f y158 (l0.length : Int)).bind fun bt161 => (if bt161.2.2 = 0 then (if bt161.1 = a2 then (if bt161.2.1 = (wrap64 ((l0.length : Int) + (t149.length : Int))) then (tiklaw2_WireFronts.j1 kj5 t149 y158 (decide ((t149.length : Int) < 1))) else (tiklaw2_WireFronts.j1 kj5 t149 y158 true)) else (tiklaw2_WireFronts.j1 kj5 t149 y158 true)) else (tiklaw2_WireFronts.j1 kj5 t149 y158 true)))) else (none)) = some r := by first | (rw [hy155]; with_reducible exact H) | (have H2_ := (Option.bind_some _ _).symm.trans H; rw [hy155]; with_reducible exact H2_) | (have H2_ := (Option.bind_some _ _).symm.trans H; with_reducible exact H2_) | with_reducible exact H | (rw [hy155]; exact H) | exact H
            have Ny155 := Aside0.mk hy155
            clear hy155
            by_cases c15 : y155.length + l1.length < 140737488355328
            · rw [if_pos c15] at H
              have LMc15 := Aside0.mk c15
              clear c15
              obtain ⟨y158, hy158⟩ : ∃ y_ : List Int, y_ = (y155 ++ l1) := ⟨_, rfl⟩
              replace H : ((wire_Get.f y158 (l0.length : Int)).bind fun bt161 => (if bt161.2.2 = 0 then (if bt161.1 = a2 then (if bt161.2.1 = (wrap64 ((l0.length : Int) + (t149.length : Int))) then (tiklaw2_WireFronts.j1 kj5 t149 y158 (decide ((t149.length : Int) < 1))) else (tiklaw2_WireFronts.j1 kj5 t149 y158 true)) else (tiklaw2_WireFronts.j1 kj5 t149 y158 true)) else (tiklaw2_WireFronts.j1 kj5 t149 y158 true))) = some r := by first | (rw [hy158]; with_reducible exact H) | (have H2_ := (Option.bind_some _ _).symm.trans H; rw [hy158]; with_reducible exact H2_) | (have H2_ := (Option.bind_some _ _).symm.trans H; with_reducible exact H2_) | with_reducible exact H | (rw [hy158]; exact H) | exact H
              have Ny158 := Aside0.mk hy158
              clear hy158
              replace H := Option.bind_eq_some_iff.mp H
              obtain ⟨⟨t161, t162, t163⟩, A160, H⟩ := H
              replace H : (if t163 = 0 then (if t161 = a2 then (if t162 = (wrap64 ((l0.length : Int) + (t149.length : Int))) then (tiklaw2_WireFronts.j1 kj5 t149 y158 (decide ((t149.length : Int) < 1))) else (tiklaw2_WireFronts.j1 kj5 t149 y158 true)) else (tiklaw2_WireFronts.j1 kj5 t149 y158 true)) else (tiklaw2_WireFronts.j1 kj5 t149 y158 true)) = some r := H
              have A16 := Aside0.mk A160
              clear A160
              have HC17 := Aside0.mk H
              clear H
              go_upto_region 8 with (first | ((with_reducible refine gate_callee (f := 13) rfl ?_); refine goesL_ (some 34) rfl rfl Try.func13 (by kernel_rfl) rfl #[.int .u64 a2] rfl (by (try simp only [List.map_toArray, List.map_cons, List.map_nil]); first | done | rfl | (simp only [List.length_drop, List.length_take]; rfl)) ?_; (with_reducible refine (wire_Var.calls kj5 a2 t149 _ A12.out).mono ?_); rintro e w18 ⟨v150, rfl, ho0, hb⟩; refine ⟨_, rfl, ?_⟩; have n0_ := Aside0.mk (Kd.R_lower ho0 (below_size (by repeat (first | (with_reducible first | exact HB.out | apply below_alloc | apply pw_below_drewN | apply below_drew1) | exact HB.out)))); have n1_ := Aside0.mk (below_step (by repeat (first | (with_reducible first | exact HB.out | apply below_alloc | apply pw_below_drewN | apply below_drew1) | exact HB.out)) hb); clear HB; have HO151 := n0_; have HB := n1_; clear n0_ n1_; (try clear hb); (try clear hb2); (try clear hk); (try clear hi); (try clear ho0)) | ((with_reducible refine gate_callee (f := 19) rfl ?_); refine goesL_ (some 36) rfl rfl Try.func19 (by kernel_rfl) rfl #[.slice A0 l0.length c0] rfl (by (try simp only [List.map_toArray, List.map_cons, List.map_nil]); first | done | rfl | (simp only [List.length_drop, List.length_take]; rfl)) ?_; (with_reducible refine (tikref_CopyBytes.calls _ _ l0 t152 _ ?side1 ?side2 A13.out).mono ?_); (case side1 => repeat (first | exact (Kd.C_below HR0.out HB.out) | (with_reducible refine Kd.C_alloc ?_ _) | (with_reducible refine Kd.C_drewN ?_ _) | (with_reducible refine Kd.C_drew ?_))); (case side2 => exact HC0.out); rintro e w19 ⟨v153, rfl, ho0, hb⟩; refine ⟨_, rfl, ?_⟩; have n0_ := Aside0.mk (Kd.R_elder' (by (with_reducible repeat (first | apply Kd.R_alloc | apply Kd.R_drewN | apply Kd.R_drew)); exact HO151.out) (Kd.R_base ho0) hb); have n1_ := Aside0.mk (Kd.R_lower (Kd.R_new' ho0 (Kd.R_lt (by (with_reducible repeat (first | apply Kd.R_alloc | apply Kd.R_drewN | apply Kd.R_drew)); exact HO151.out))) (below_size (by repeat (first | (with_reducible first | exact HB.out | apply below_alloc | apply pw_below_drewN | apply below_drew1) | exact HB.out)))); have n2_ := Aside0.mk (below_step (by repeat (first | (with_reducible first | exact HB.out | apply below_alloc | apply pw_below_drewN | apply below_drew1) | exact HB.out)) hb); clear HO151; clear HB; have HO151 := n0_; have HO154 := n1_; have HB := n2_; clear n0_ n1_ n2_; (try clear hb); (try clear hb2); (try clear hk); (try clear hi); (try clear ho0); obtain ⟨Ao21, co21, eo21⟩ := Kd.R_slice HO151.out; subst eo21) | ((with_reducible refine gate_builtin (b := .append) (xs := #[.tmp 36, .tmp 37]) rfl ?_); (try (refine gate_guard (by rfl) ?_; dsimp only)); at_builtin; refine Kd.R_append_rows (Kd.int .u8) (w0 := w) w.heap.size rfl (.tmp 36) (.tmp 37) 23 5 (.int .u8 0) 1 rfl Try.underlying23 info5 rfl (by decide) (by omega) v153 t152 t149 _ _ _ (fun k_ => some k_ ≠ (.slice Ao21 t149.length co21 : Value).ownBlock) (fun _ => False) rfl rfl ?aO ?aR (fun _ _ h => h) (fun _ h => h.elim) ?aF ?aB ?aS ?aL ?_; (case aR => repeat (first | exact (Kd.R_reads' HO151.out).2.2 | (with_reducible refine Kd.C_alloc ?_ _) | (with_reducible refine Kd.C_drewN ?_ _) | (with_reducible refine Kd.C_drew ?_))); (case aB => exact (by repeat (first | (with_reducible first | exact HB.out | apply below_alloc | apply pw_below_drewN | apply below_drew1) | exact HB.out))); (case aF => exact (fun k_ hk => Kd.fresh' (Kd.R_lt (by (with_reducible repeat (first | apply Kd.R_alloc | apply Kd.R_drewN | apply Kd.R_drew)); exact HO151.out)) k_ hk)); (case aO => exact (by (with_reducible repeat (first | apply Kd.R_alloc | apply Kd.R_drewN | apply Kd.R_drew)); exact Kd.R_mono HO154.out (fun _ hk => hk.2))); (case aS => exact (below_size (by repeat (first | (with_reducible first | exact HB.out | apply below_alloc | apply pw_below_drewN | apply below_drew1) | exact HB.out)))); (case aL => have := LMc14.out; omega); intro v156 w20 ho hb hg hat; rw [← Ny155.out] at ho; have n0_ := Aside0.mk (Kd.R_after (ok := (fun _ => True)) (by (with_reducible repeat (first | apply Kd.R_alloc | apply Kd.R_drewN | apply Kd.R_drew)); exact HO151.out) hg hat); have n1_ := Aside0.mk (hb); have n2_ := Aside0.mk (ho); clear HO151; clear HB; clear HO154; have HO151 := n0_; have HB := n1_; have HO157 := n2_; clear n0_ n1_ n2_; clear ho hb hg hat) | ((with_reducible refine gate_builtin (b := .append) (xs := #[.tmp 38, .tmp 39]) rfl ?_); (try (refine gate_guard (by rfl) ?_; dsimp only)); at_builtin; refine Kd.R_append_rows (Kd.int .u8) (w0 := w) w.heap.size rfl (.tmp 38) (.tmp 39) 23 5 (.int .u8 0) 1 rfl Try.underlying23 info5 rfl (by decide) (by omega) v156 y155 l1 _ _ _ (fun k_ => some k_ ≠ (.slice Ao21 t149.length co21 : Value).ownBlock) (fun _ => False) rfl rfl ?aO ?aR (fun _ _ h => h) (fun _ h => h.elim) ?aF ?aB ?aS ?aL ?_; (case aR => repeat (first | exact (Kd.C_below HR1.out HB.out) | (with_reducible refine Kd.C_alloc ?_ _) | (with_reducible refine Kd.C_drewN ?_ _) | (with_reducible refine Kd.C_drew ?_))); (case aB => exact (by repeat (first | (with_reducible first | exact HB.out | apply below_alloc | apply pw_below_drewN | apply below_drew1) | exact HB.out))); (case aF => exact (fun k_ hk => Kd.fresh' (Kd.R_lt (by (with_reducible repeat (first | apply Kd.R_alloc | apply Kd.R_drewN | apply Kd.R_drew)); exact HO151.out)) k_ hk)); (case aO => exact (by (with_reducible repeat (first | apply Kd.R_alloc | apply Kd.R_drewN | apply Kd.R_drew)); exact HO157.out)); (case aS => exact (below_size (by repeat (first | (with_reducible first | exact HB.out | apply below_alloc | apply pw_below_drewN | apply below_drew1) | exact HB.out)))); (case aL => have := LMc15.out; omega); intro v159 w22 ho hb hg hat; rw [← Ny158.out] at ho; have n0_ := Aside0.mk (Kd.R_after (ok := (fun _ => True)) (by (with_reducible repeat (first | apply Kd.R_alloc | apply Kd.R_drewN | apply Kd.R_drew)); exact HO151.out) hg hat); have n1_ := Aside0.mk (hb); have n2_ := Aside0.mk (ho); clear HO151; clear HB; clear HO157; have HO151 := n0_; have HB := n1_; have HO160 := n2_; clear n0_ n1_ n2_; clear ho hb hg hat; obtain ⟨Ao23, co23, eo23⟩ := Kd.R_slice HO160.out; subst eo23) | ((with_reducible refine gate_callee (f := 10) rfl ?_); refine goesL_ (some 45) rfl rfl Try.func10 (by kernel_rfl) rfl #[.slice Ao23 y158.length co23, .int .i64 (l0.length : Int)] rfl (by (try simp only [List.map_toArray, List.map_cons, List.map_nil]); first | done | rfl | (simp only [List.length_drop, List.length_take]; rfl)) ?_; (with_reducible refine (wire_Get.calls _ _ y158 (l0.length : Int) t161 t162 t163 _ ?side1 ?side2 A16.out).mono ?_); (case side1 => repeat (first | exact (Kd.R_reads' HO160.out).2.2 | (with_reducible refine Kd.C_alloc ?_ _) | (with_reducible refine Kd.C_drewN ?_ _) | (with_reducible refine Kd.C_drew ?_))); (case side2 => exact (Kd.R_reads' HO160.out).2.1); rintro e w24 ⟨rfl, hb⟩; refine ⟨_, rfl, ?_⟩; have n0_ := Aside0.mk (Kd.R_below (by (with_reducible repeat (first | apply Kd.R_alloc | apply Kd.R_drewN | apply Kd.R_drew)); exact HO151.out) hb); have n1_ := Aside0.mk (Kd.R_below (by (with_reducible repeat (first | apply Kd.R_alloc | apply Kd.R_drewN | apply Kd.R_drew)); exact HO160.out) hb); have n2_ := Aside0.mk (below_step (by repeat (first | (with_reducible first | exact HB.out | apply below_alloc | apply pw_below_drewN | apply below_drew1) | exact HB.out)) hb); clear HO151; clear HO160; clear HB; have HO151 := n0_; have HO160 := n1_; have HB := n2_; clear n0_ n1_ n2_; (try clear hb); (try clear hb2); (try clear hk); (try clear hi)))
              (try simp only [Act.put, List.setIfInBounds_toArray, List.set_cons_zero, List.set_cons_succ])
              go_cut [69] (fun v69 wc => ∃ (kq : Nat) (x69_16 : Bool), v69 = .bool x69_16 ∧ Aside0 (tiklaw2_WireFronts.j1 kq t149 y158 x69_16 = some r) ∧ Aside0 (kq ≤ kj5) ∧ Aside0 (Kd.R (Kd.int .u8) 5 wc w.heap.size (fun k_ => some k_ ≠ ((.slice Ao23 y158.length co23) : Value).ownBlock) (.slice Ao21 t149.length co21) t149) ∧ Aside0 (Kd.R (Kd.int .u8) 5 wc w.heap.size (fun k_ => some k_ ≠ ((.slice Ao21 t149.length co21) : Value).ownBlock) (.slice Ao23 y158.length co23) y158) ∧ Aside0 (Below w.heap.size w wc))
              case first =>
                have H := HC17.out
                clear HC17
                by_cases c25 : t163 = 0
                · rw [if_pos c25] at H
                  have c25b0 : (t163 == 0) = true := beq_iff_eq.mpr c25
                  have c25b1 : (t163 != 0) = false := bne_eq_false_iff_eq.mpr c25
                  clear c25
                  (first | rw [c25b0] | (simp only [i64_w, i32_w]; rw [c25b0]) | skip)
                  by_cases c26 : t161 = a2
                  · rw [if_pos c26] at H
                    have c26b0 : (t161 == a2) = true := beq_iff_eq.mpr c26
                    have c26b1 : (t161 != a2) = false := bne_eq_false_iff_eq.mpr c26
                    clear c26
                    by_cases c27 : t162 = (wrap64 ((l0.length : Int) + (t149.length : Int)))
                    · rw [if_pos c27] at H
                      have c27b0 : (t162 == (wrap64 ((l0.length : Int) + (t149.length : Int)))) = true := beq_iff_eq.mpr c27
                      have c27b1 : (t162 != (wrap64 ((l0.length : Int) + (t149.length : Int)))) = false := bne_eq_false_iff_eq.mpr c27
                      clear c27
                      have H' := Aside0.mk H
                      clear H
                      go_wp2
                      go_meet
                      case rel => exact ⟨_, (decide ((t149.length : Int) < 1)), (by first | rfl | (simp; done) | (simp [*]; done)), H', ⟨by have := HJ5.out; first | omega | exact Nat.le_refl _⟩, ⟨by (with_reducible repeat (first | apply Kd.R_alloc | apply Kd.R_drewN | apply Kd.R_drew)); exact Kd.R_mono HO151.out (fun _ hk => hk.2)⟩, ⟨by (with_reducible repeat (first | apply Kd.R_alloc | apply Kd.R_drewN | apply Kd.R_drew)); exact HO160.out⟩, ⟨by repeat (first | (with_reducible first | exact HB.out | apply below_alloc | apply pw_below_drewN | apply below_drew1) | exact HB.out)⟩⟩
                    · rw [if_neg c27] at H
                      have c27b0 : (t162 == (wrap64 ((l0.length : Int) + (t149.length : Int)))) = false := beq_eq_false_iff_ne.mpr c27
                      have c27b1 : (t162 != (wrap64 ((l0.length : Int) + (t149.length : Int)))) = true := bne_iff_ne.mpr c27
                      have H' := Aside0.mk H
                      clear H
                      go_wp2
                      go_meet
                      case rel => exact ⟨_, (true), (by first | rfl | (simp; done) | (simp [*]; done)), H', ⟨by have := HJ5.out; first | omega | exact Nat.le_refl _⟩, ⟨by (with_reducible repeat (first | apply Kd.R_alloc | apply Kd.R_drewN | apply Kd.R_drew)); exact Kd.R_mono HO151.out (fun _ hk => hk.2)⟩, ⟨by (with_reducible repeat (first | apply Kd.R_alloc | apply Kd.R_drewN | apply Kd.R_drew)); exact HO160.out⟩, ⟨by repeat (first | (with_reducible first | exact HB.out | apply below_alloc | apply pw_below_drewN | apply below_drew1) | exact HB.out)⟩⟩
                  · rw [if_neg c26] at H
                    have c26b0 : (t161 == a2) = false := beq_eq_false_iff_ne.mpr c26
                    have c26b1 : (t161 != a2) = true := bne_iff_ne.mpr c26
                    have H' := Aside0.mk H
                    clear H
                    go_wp2
                    go_meet
                    case rel => exact ⟨_, (true), (by first | rfl | (simp; done) | (simp [*]; done)), H', ⟨by have := HJ5.out; first | omega | exact Nat.le_refl _⟩, ⟨by (with_reducible repeat (first | apply Kd.R_alloc | apply Kd.R_drewN | apply Kd.R_drew)); exact Kd.R_mono HO151.out (fun _ hk => hk.2)⟩, ⟨by (with_reducible repeat (first | apply Kd.R_alloc | apply Kd.R_drewN | apply Kd.R_drew)); exact HO160.out⟩, ⟨by repeat (first | (with_reducible first | exact HB.out | apply below_alloc | apply pw_below_drewN | apply below_drew1) | exact HB.out)⟩⟩
                · rw [if_neg c25] at H
                  have c25b0 : (t163 == 0) = false := beq_eq_false_iff_ne.mpr c25
                  have c25b1 : (t163 != 0) = true := bne_iff_ne.mpr c25
                  (first | rw [c25b0] | (simp only [i64_w, i32_w]; rw [c25b0]) | skip)
                  have H' := Aside0.mk H
                  clear H
                  go_wp2
                  go_meet
                  case rel => exact ⟨_, (true), (by first | rfl | (simp; done) | (simp [*]; done)), H', ⟨by have := HJ5.out; first | omega | exact Nat.le_refl _⟩, ⟨by (with_reducible repeat (first | apply Kd.R_alloc | apply Kd.R_drewN | apply Kd.R_drew)); exact Kd.R_mono HO151.out (fun _ hk => hk.2)⟩, ⟨by (with_reducible repeat (first | apply Kd.R_alloc | apply Kd.R_drewN | apply Kd.R_drew)); exact HO160.out⟩, ⟨by repeat (first | (with_reducible first | exact HB.out | apply below_alloc | apply pw_below_drewN | apply below_drew1) | exact HB.out)⟩⟩
              case rest =>
                clear HC17
                try clear c1
                try clear c2
                try clear p2
                try clear c5
                try clear p6
                try clear c8
                try clear c8b0
                try clear c8b1
                try clear c9
                try clear c10
                try clear c13
                try clear c14
                try clear c15
                try clear c19
                try clear c25
                try clear c25b0
                try clear c25b1
                try clear c26
                try clear c26b0
                try clear c26b1
                try clear c27
                try clear c27b0
                try clear c27b1
                try clear p2
                obtain ⟨kq, x69_16, rfl, HA, HJ16, HO_7, HO_8, HB⟩ := hcut
                cases kq with
                | zero => exact absurd HA.out (by simp [tiklaw2_WireFronts.j1])
                | succ kj16 =>
                  have H := HA.out
                  clear HA
                  simp only [tiklaw2_WireFronts.j1] at H
                  by_cases c28 : x69_16 = true
                  · subst c28
                    have H1 : (some false) = some r := by rw [if_pos rfl] at H; exact H
                    clear H
                    have H := H1
                    clear H1
                    exact absurd ((Option.some.inj H).trans hr_.out) (by simp)
                  · replace c28 := Bool.eq_false_iff.mpr c28
                    subst c28
                    have H1 : ((tikref_CopyBytes.f t149).bind fun t164 => (if 0 ≤ (wrap64 ((t164.length : Int) - 1)) then (if (wrap64 ((t164.length : Int) - 1)) < (t164.length : Int) then ((some (t164.set ((wrap64 ((t164.length : Int) - 1)) : Int).toNat (Go.bits .or .u8 (rd t164 (wrap64 ((t164.length : Int) - 1))) 128) : List Int)).bind fun y168 => (if y168.length < 140737488355328 then ((wire_Get.f (y168 ++ [0]) 0).bind fun bt172 => ((wire_Get.f y158 (-1)).bind fun bt175 => ((wire_Get.f y158 (wrap64 ((y158.length : Int) + 1))).bind fun bt178 => ((tiklaw2_first.f).bind fun t181 => (if t181 = true then (if bt172.2.2 = 2 then (if bt175.2.2 = 1 then (some (bt178.2.2 == 1)) else (some false)) else (some false)) else (some false)))))) else (none))) else (none)) else (none))) = some r := by rw [if_neg (show ¬ (false = true) by decide)] at H; exact H
                    clear H
                    have H := H1
                    clear H1
                    replace H := Option.bind_eq_some_iff.mp H
                    obtain ⟨t164, A290, H⟩ := H
                    replace H : (if 0 ≤ (wrap64 ((t164.length : Int) - 1)) then (if (wrap64 ((t164.length : Int) - 1)) < (t164.length : Int) then ((some (t164.set ((wrap64 ((t164.length : Int) - 1)) : Int).toNat (Go.bits .or .u8 (rd t164 (wrap64 ((t164.length : Int) - 1))) 128) : List Int)).bind fun y168 => (if y168.length < 140737488355328 then ((wire_Get.f (y168 ++ [0]) 0).bind fun bt172 => ((wire_Get.f y158 (-1)).bind fun bt175 => ((wire_Get.f y158 (wrap64 ((y158.length : Int) + 1))).bind fun bt178 => ((tiklaw2_first.f).bind fun t181 => (if t181 = true then (if bt172.2.2 = 2 then (if bt175.2.2 = 1 then (some (bt178.2.2 == 1)) else (some false)) else (some false)) else (some false)))))) else (none))) else (none)) else (none)) = some r := H
                    have A29 := Aside0.mk A290
                    clear A290
                    obtain ⟨ji30, hji30⟩ : ∃ j_ : Int, (wrap64 ((t164.length : Int) - 1)) = j_ := ⟨_, rfl⟩
                    replace H : (if 0 ≤ (ji30) then (if (ji30) < (t164.length : Int) then ((some (t164.set ((ji30) : Int).toNat (Go.bits .or .u8 (rd t164 (ji30)) 128) : List Int)).bind fun y168 => (if y168.length < 140737488355328 then ((wire_Get.f (y168 ++ [0]) 0).bind fun bt172 => ((wire_Get.f y158 (-1)).bind fun bt175 => ((wire_Get.f y158 (wrap64 ((y158.length : Int) + 1))).bind fun bt178 => ((tiklaw2_first.f).bind fun t181 => (if t181 = true then (if bt172.2.2 = 2 then (if bt175.2.2 = 1 then (some (bt178.2.2 == 1)) else (some false)) else (some false)) else (some false)))))) else (none))) else (none)) else (none)) = some r := by first | (rw [hji30] at H; exact H) | (simp only [hji30] at H ⊢; exact H)
                    (try rw [hji30] at A29)
                    have hji30w : (IntKind.i64.wrap ((t164.length : Int) - 1)) = ji30 := (i64_w _).trans hji30
                    by_cases c31 : 0 ≤ (ji30)
                    · rw [if_pos c31] at H
                      have c31b0 : decide (0 ≤ (ji30)) = true := decide_eq_true c31
                      clear c31
                      by_cases c32 : (ji30) < (t164.length : Int)
                      · rw [if_pos c32] at H
                        have c32b0 : decide ((ji30) < (t164.length : Int)) = true := decide_eq_true c32
                        clear c32
                        obtain ⟨y168, hy168⟩ : ∃ y_ : List Int, y_ = (t164.set ((ji30) : Int).toNat (Go.bits .or .u8 (rd t164 (ji30)) 128)) := ⟨_, rfl⟩
                        replace H : (if y168.length < 140737488355328 then ((wire_Get.f (y168 ++ [0]) 0).bind fun bt172 => ((wire_Get.f y158 (-1)).bind fun bt175 => ((wire_Get.f y158 (wrap64 ((y158.length : Int) + 1))).bind fun bt178 => ((tiklaw2_first.f).bind fun t181 => (if t181 = true then (if bt172.2.2 = 2 then (if bt175.2.2 = 1 then (some (bt178.2.2 == 1)) else (some false)) else (some false)) else (some false)))))) else (none)) = some r := by first | (rw [hy168]; with_reducible exact H) | (have H2_ := (Option.bind_some _ _).symm.trans H; rw [hy168]; with_reducible exact H2_) | (have H2_ := (Option.bind_some _ _).symm.trans H; with_reducible exact H2_) | with_reducible exact H | (rw [hy168]; exact H) | exact H
                        have Ny168 := Aside0.mk hy168
                        clear hy168
                        by_cases c34 : y168.length < 140737488355328
                        · rw [if_pos c34] at H
                          have LMc34 := Aside0.mk c34
                          clear c34
                          obtain ⟨y169, hy169⟩ : ∃ y_ : List Int, y_ = (y168 ++ [0]) := ⟨_, rfl⟩
                          replace H : ((wire_Get.f y169 0).bind fun bt172 => ((wire_Get.f y158 (-1)).bind fun bt175 => ((wire_Get.f y158 (wrap64 ((y158.length : Int) + 1))).bind fun bt178 => ((tiklaw2_first.f).bind fun t181 => (if t181 = true then (if bt172.2.2 = 2 then (if bt175.2.2 = 1 then (some (bt178.2.2 == 1)) else (some false)) else (some false)) else (some false)))))) = some r := by first | (rw [hy169]; with_reducible exact H) | (have H2_ := (Option.bind_some _ _).symm.trans H; rw [hy169]; with_reducible exact H2_) | (have H2_ := (Option.bind_some _ _).symm.trans H; with_reducible exact H2_) | with_reducible exact H | (rw [hy169]; exact H) | exact H
                          have Ny169 := Aside0.mk hy169
                          clear hy169
                          replace H := Option.bind_eq_some_iff.mp H
                          obtain ⟨⟨t172, t173, t174⟩, A350, H⟩ := H
                          replace H : ((wire_Get.f y158 (-1)).bind fun bt175 => ((wire_Get.f y158 (wrap64 ((y158.length : Int) + 1))).bind fun bt178 => ((tiklaw2_first.f).bind fun t181 => (if t181 = true then (if t174 = 2 then (if bt175.2.2 = 1 then (some (bt178.2.2 == 1)) else (some false)) else (some false)) else (some false))))) = some r := H
                          have A35 := Aside0.mk A350
                          clear A350
                          replace H := Option.bind_eq_some_iff.mp H
                          obtain ⟨⟨t175, t176, t177⟩, A360, H⟩ := H
                          replace H : ((wire_Get.f y158 (wrap64 ((y158.length : Int) + 1))).bind fun bt178 => ((tiklaw2_first.f).bind fun t181 => (if t181 = true then (if t174 = 2 then (if t177 = 1 then (some (bt178.2.2 == 1)) else (some false)) else (some false)) else (some false)))) = some r := H
                          have A36 := Aside0.mk A360
                          clear A360
                          replace H := Option.bind_eq_some_iff.mp H
                          obtain ⟨⟨t178, t179, t180⟩, A370, H⟩ := H
                          replace H : ((tiklaw2_first.f).bind fun t181 => (if t181 = true then (if t174 = 2 then (if t177 = 1 then (some (t180 == 1)) else (some false)) else (some false)) else (some false))) = some r := H
                          have A37 := Aside0.mk A370
                          clear A370
                          replace H := Option.bind_eq_some_iff.mp H
                          obtain ⟨t181, A380, H⟩ := H
                          replace H : (if t181 = true then (if t174 = 2 then (if t177 = 1 then (some (t180 == 1)) else (some false)) else (some false)) else (some false)) = some r := H
                          have A38 := Aside0.mk A380
                          clear A380
                          by_cases c39 : t181 = true
                          · subst c39
                            have H1 : (if t174 = 2 then (if t177 = 1 then (some (t180 == 1)) else (some false)) else (some false)) = some r := by rw [if_pos rfl] at H; exact H
                            clear H
                            have H := H1
                            clear H1
                            by_cases c40 : t174 = 2
                            · rw [if_pos c40] at H
                              have c40b0 : (t174 == 2) = true := beq_iff_eq.mpr c40
                              have c40b1 : (t174 != 2) = false := bne_eq_false_iff_eq.mpr c40
                              clear c40
                              by_cases c41 : t177 = 1
                              · rw [if_pos c41] at H
                                have c41b0 : (t177 == 1) = true := beq_iff_eq.mpr c41
                                have c41b1 : (t177 != 1) = false := bne_eq_false_iff_eq.mpr c41
                                clear c41
                                obtain rfl := Option.some.inj H
                                go_wp2_with (first | ((with_reducible refine gate_callee (f := 19) rfl ?_); refine goesL_ (some 71) rfl rfl Try.func19 (by kernel_rfl) rfl #[.slice Ao21 t149.length co21] rfl (by (try simp only [List.map_toArray, List.map_cons, List.map_nil]); first | done | rfl | (simp only [List.length_drop, List.length_take]; rfl)) ?_; (with_reducible refine (tikref_CopyBytes.calls _ _ t149 t164 _ ?side1 ?side2 A29.out).mono ?_); (case side1 => repeat (first | exact (Kd.R_reads' HO_7.out).2.2 | (with_reducible refine Kd.C_alloc ?_ _) | (with_reducible refine Kd.C_drewN ?_ _) | (with_reducible refine Kd.C_drew ?_))); (case side2 => exact (Kd.R_reads' HO_7.out).2.1); rintro e w42 ⟨v165, rfl, ho0, hb⟩; refine ⟨_, rfl, ?_⟩; have n0_ := Aside0.mk (Kd.R_elder' (by (with_reducible repeat (first | apply Kd.R_alloc | apply Kd.R_drewN | apply Kd.R_drew)); exact HO_7.out) (Kd.R_base ho0) hb); have n1_ := Aside0.mk (Kd.R_elder' (by (with_reducible repeat (first | apply Kd.R_alloc | apply Kd.R_drewN | apply Kd.R_drew)); exact HO_8.out) (Kd.R_base ho0) hb); have n2_ := Aside0.mk (Kd.R_lower (Kd.R_new' (Kd.R_new' ho0 (Kd.R_lt (by (with_reducible repeat (first | apply Kd.R_alloc | apply Kd.R_drewN | apply Kd.R_drew)); exact HO_7.out))) (Kd.R_lt (by (with_reducible repeat (first | apply Kd.R_alloc | apply Kd.R_drewN | apply Kd.R_drew)); exact HO_8.out))) (below_size (by repeat (first | (with_reducible first | exact HB.out | apply below_alloc | apply pw_below_drewN | apply below_drew1) | exact HB.out)))); have n3_ := Aside0.mk (below_step (by repeat (first | (with_reducible first | exact HB.out | apply below_alloc | apply pw_below_drewN | apply below_drew1) | exact HB.out)) hb); clear HO_7; clear HO_8; clear HB; have HO_7 := n0_; have HO_8 := n1_; have HO166 := n2_; have HB := n3_; clear n0_ n1_ n2_ n3_; (try clear hb); (try clear hb2); (try clear hk); (try clear hi); (try clear ho0); obtain ⟨Ao43, co43, eo43⟩ := Kd.R_slice HO166.out; subst eo43; have p167 : 0 ≤ ((ji30) : Int) := of_decide_eq_true (by first | (with_reducible assumption) | assumption); have q167 : (ji30) < (t164.length : Int) := of_decide_eq_true (by first | (with_reducible assumption) | assumption); obtain ⟨ad167, e167, hx167_0⟩ := Kd.at_int (Kd.R_reads' HO166.out).2.2 (ji30) p167 q167; cases e167; replace p167 := eq_true p167; replace q167 := eq_true q167; have p33 : 0 ≤ ((ji30) : Int) := of_decide_eq_true (by first | (with_reducible assumption) | assumption); have q33 : ((ji30) : Int) < ((t164.length : Int) : Int) := of_decide_eq_true (by first | (with_reducible assumption) | assumption); obtain ⟨go33, co33, eo33, gb33, gl33, cl33, HG33⟩ := Kd.R_form HO166.out (by omega); (first | cases eo33 | (injection eo33 with ea_ en_ ec_; (first | subst ea_ | (injection ea_ with ea_; subst ea_)); subst ec_; clear en_)); have GB33 := Aside0.mk gb33; have GG33 := Aside0.mk HG33; clear gb33 gl33 HG33; (first | simp only [add_plain] at hx167_0 | skip); obtain ⟨hx33_0, hf33_0⟩ := Kd.R_celln 0 HO166.out ((ji30) : Int) p33 q33; replace p33 := eq_true p33; replace q33 := eq_true q33; have n_ := Aside0.mk (Kd.R_mono (ok' := (fun k_ => some k_ ≠ (.slice Ao21 t149.length co21 : Value).ownBlock ∧ some k_ ≠ (.slice Ao23 y158.length co23 : Value).ownBlock)) HO166.out (fun k_ hk => ⟨hk.1.2, hk.2⟩)); clear HO166; have HO166 := n_; clear n_; obtain ⟨hy44_, hz44_⟩ := Kd.R_celln 0 HO166.out ((ji30) : Int) (of_decide_eq_true (by first | (with_reducible assumption) | assumption)) (of_decide_eq_true (by first | (with_reducible assumption) | assumption)); have HP44 := Kd.R_putg HO166.out ((ji30) : Int) (Go.bits .or .u8 (rd t164 (ji30)) 128)) | ((with_reducible refine gate_store (t := 5) (p := 79) rfl ?_); refine store_event (t := 5) (p := 79) (v := ?vo_w45) (w1 := (w42.setCell ⟨go33, ((ji30) : Int).toNat, none⟩ (.int .u8 (Go.bits .or .u8 (rd t164 (ji30)) 128)))) ?hg ?ho ?hn ?hr ?_; (case ho => rfl); (case hg => rfl); (case hn => rfl); (case hr => first | (go_simp; done) | (go_simp; rfl)); intro w45 hw; have hg : w42.grownBy w45 (some go33) := (by rw [hw]; exact HP44.2); have hp_ : Kd.R (Kd.int .u8) 5 w45 w.heap.size (fun k_ => some k_ ≠ (.slice Ao21 t149.length co21 : Value).ownBlock ∧ some k_ ≠ (.slice Ao23 y158.length co23 : Value).ownBlock) (.slice (some ⟨go33, 0, none⟩) t164.length co43) y168 := (by rw [hw, Ny168.out]; exact HP44.1); clear HP44; have n0_ := Aside0.mk (Kd.R_after (v := (.slice (some ⟨go33, 0, none⟩) t164.length co43)) (v1 := (.slice (some ⟨go33, 0, none⟩) t164.length co43)) (ok := (fun k_ => some k_ ≠ (.slice Ao23 y158.length co23 : Value).ownBlock)) (by (with_reducible repeat (first | apply Kd.R_alloc | apply Kd.R_drewN | apply Kd.R_drew)); exact HO_7.out) hg (.inl rfl)); have n1_ := Aside0.mk (Kd.R_after (v := (.slice (some ⟨go33, 0, none⟩) t164.length co43)) (v1 := (.slice (some ⟨go33, 0, none⟩) t164.length co43)) (ok := (fun k_ => some k_ ≠ (.slice Ao21 t149.length co21 : Value).ownBlock)) (by (with_reducible repeat (first | apply Kd.R_alloc | apply Kd.R_drewN | apply Kd.R_drew)); exact HO_8.out) hg (.inl rfl)); have n2_ := Aside0.mk (hp_); have n3_ := Aside0.mk ((by rw [hw]; exact below_set (HB.out) GB33.out : Below w.heap.size w w45)); clear HO_7; clear HO_8; clear HO166; clear HB; have HO_7 := n0_; have HO_8 := n1_; have HO166 := n2_; have HB := n3_; clear n0_ n1_ n2_ n3_; clear hg hw hp_) | ((with_reducible refine gate_builtin (b := .append) (xs := #[.tmp 81, .tmp 82]) rfl ?_); (try (refine gate_guard (by rfl) ?_; dsimp only)); at_builtin; refine Kd.R_append (Kd.int .u8) (w0 := w) w.heap.size rfl (.tmp 81) (.tmp 82) 23 5 (.int .u8 0) 1 rfl Try.underlying23 info5 rfl (by decide) (by omega) (.slice (some ⟨go33, 0, none⟩) t164.length co43) y168 0 [.int .u8 0] (fun k_ => some k_ ≠ (.slice Ao21 t149.length co21 : Value).ownBlock ∧ some k_ ≠ (.slice Ao23 y158.length co23 : Value).ownBlock) (fun _ => False) rfl rfl ?aP (fun _ hk => hk.elim) ?aF ?aO ?aB ?aS ?aL ?_; (case aP => exact rfl); (case aB => exact (by repeat (first | (with_reducible first | exact HB.out | apply below_alloc | apply pw_below_drewN | apply below_drew1) | exact HB.out))); (case aF => exact (fun k_ hk => ⟨Kd.fresh' (Kd.R_lt (by (with_reducible repeat (first | apply Kd.R_alloc | apply Kd.R_drewN | apply Kd.R_drew)); exact HO_7.out)) k_ hk, Kd.fresh' (Kd.R_lt (by (with_reducible repeat (first | apply Kd.R_alloc | apply Kd.R_drewN | apply Kd.R_drew)); exact HO_8.out)) k_ hk⟩)); (case aO => exact (by (with_reducible repeat (first | apply Kd.R_alloc | apply Kd.R_drewN | apply Kd.R_drew)); exact HO166.out)); (case aS => exact (below_size (by repeat (first | (with_reducible first | exact HB.out | apply below_alloc | apply pw_below_drewN | apply below_drew1) | exact HB.out)))); (case aL => have := LMc34.out; omega); intro v170 w46 ho hb hg hat; rw [← Ny169.out] at ho; have n0_ := Aside0.mk (Kd.R_after (ok := (fun k_ => some k_ ≠ (.slice Ao23 y158.length co23 : Value).ownBlock)) (by (with_reducible repeat (first | apply Kd.R_alloc | apply Kd.R_drewN | apply Kd.R_drew)); exact HO_7.out) hg hat); have n1_ := Aside0.mk (Kd.R_after (ok := (fun k_ => some k_ ≠ (.slice Ao21 t149.length co21 : Value).ownBlock)) (by (with_reducible repeat (first | apply Kd.R_alloc | apply Kd.R_drewN | apply Kd.R_drew)); exact HO_8.out) hg hat); have n2_ := Aside0.mk (hb); have n3_ := Aside0.mk (ho); clear HO_7; clear HO_8; clear HB; clear HO166; have HO_7 := n0_; have HO_8 := n1_; have HB := n2_; have HO171 := n3_; clear n0_ n1_ n2_ n3_; clear ho hb hg hat; obtain ⟨Ao47, co47, eo47⟩ := Kd.R_slice HO171.out; subst eo47) | ((with_reducible refine gate_callee (f := 10) rfl ?_); refine goesL_ (some 84) rfl rfl Try.func10 (by kernel_rfl) rfl #[.slice Ao47 y169.length co47, .int .i64 0] rfl (by (try simp only [List.map_toArray, List.map_cons, List.map_nil]); first | done | rfl | (simp only [List.length_drop, List.length_take]; rfl)) ?_; (with_reducible refine (wire_Get.calls _ _ y169 0 t172 t173 t174 _ ?side1 ?side2 A35.out).mono ?_); (case side1 => repeat (first | exact (Kd.R_reads' HO171.out).2.2 | (with_reducible refine Kd.C_alloc ?_ _) | (with_reducible refine Kd.C_drewN ?_ _) | (with_reducible refine Kd.C_drew ?_))); (case side2 => exact (Kd.R_reads' HO171.out).2.1); rintro e w48 ⟨rfl, hb⟩; refine ⟨_, rfl, ?_⟩; have n0_ := Aside0.mk (Kd.R_below (by (with_reducible repeat (first | apply Kd.R_alloc | apply Kd.R_drewN | apply Kd.R_drew)); exact HO_7.out) hb); have n1_ := Aside0.mk (Kd.R_below (by (with_reducible repeat (first | apply Kd.R_alloc | apply Kd.R_drewN | apply Kd.R_drew)); exact HO_8.out) hb); have n2_ := Aside0.mk (Kd.R_below (by (with_reducible repeat (first | apply Kd.R_alloc | apply Kd.R_drewN | apply Kd.R_drew)); exact HO171.out) hb); have n3_ := Aside0.mk (below_step (by repeat (first | (with_reducible first | exact HB.out | apply below_alloc | apply pw_below_drewN | apply below_drew1) | exact HB.out)) hb); clear HO_7; clear HO_8; clear HO171; clear HB; have HO_7 := n0_; have HO_8 := n1_; have HO171 := n2_; have HB := n3_; clear n0_ n1_ n2_ n3_; (try clear hb); (try clear hb2); (try clear hk); (try clear hi)) | ((with_reducible refine gate_callee (f := 10) rfl ?_); refine goesL_ (some 90) rfl rfl Try.func10 (by kernel_rfl) rfl #[.slice Ao23 y158.length co23, .int .i64 (-1)] rfl (by (try simp only [List.map_toArray, List.map_cons, List.map_nil]); first | done | rfl | (simp only [List.length_drop, List.length_take]; rfl)) ?_; (with_reducible refine (wire_Get.calls _ _ y158 (-1) t175 t176 t177 _ ?side1 ?side2 A36.out).mono ?_); (case side1 => repeat (first | exact (Kd.R_reads' HO_8.out).2.2 | (with_reducible refine Kd.C_alloc ?_ _) | (with_reducible refine Kd.C_drewN ?_ _) | (with_reducible refine Kd.C_drew ?_))); (case side2 => exact (Kd.R_reads' HO_8.out).2.1); rintro e w49 ⟨rfl, hb⟩; refine ⟨_, rfl, ?_⟩; have n0_ := Aside0.mk (Kd.R_below (by (with_reducible repeat (first | apply Kd.R_alloc | apply Kd.R_drewN | apply Kd.R_drew)); exact HO_7.out) hb); have n1_ := Aside0.mk (Kd.R_below (by (with_reducible repeat (first | apply Kd.R_alloc | apply Kd.R_drewN | apply Kd.R_drew)); exact HO_8.out) hb); have n2_ := Aside0.mk (Kd.R_below (by (with_reducible repeat (first | apply Kd.R_alloc | apply Kd.R_drewN | apply Kd.R_drew)); exact HO171.out) hb); have n3_ := Aside0.mk (below_step (by repeat (first | (with_reducible first | exact HB.out | apply below_alloc | apply pw_below_drewN | apply below_drew1) | exact HB.out)) hb); clear HO_7; clear HO_8; clear HO171; clear HB; have HO_7 := n0_; have HO_8 := n1_; have HO171 := n2_; have HB := n3_; clear n0_ n1_ n2_ n3_; (try clear hb); (try clear hb2); (try clear hk); (try clear hi)) | ((with_reducible refine gate_callee (f := 10) rfl ?_); refine goesL_ (some 99) rfl rfl Try.func10 (by kernel_rfl) rfl #[.slice Ao23 y158.length co23, .int .i64 (wrap64 ((y158.length : Int) + 1))] rfl (by (try simp only [List.map_toArray, List.map_cons, List.map_nil]); first | done | rfl | (simp only [List.length_drop, List.length_take]; rfl)) ?_; (with_reducible refine (wire_Get.calls _ _ y158 (wrap64 ((y158.length : Int) + 1)) t178 t179 t180 _ ?side1 ?side2 A37.out).mono ?_); (case side1 => repeat (first | exact (Kd.R_reads' HO_8.out).2.2 | (with_reducible refine Kd.C_alloc ?_ _) | (with_reducible refine Kd.C_drewN ?_ _) | (with_reducible refine Kd.C_drew ?_))); (case side2 => exact (Kd.R_reads' HO_8.out).2.1); rintro e w50 ⟨rfl, hb⟩; refine ⟨_, rfl, ?_⟩; have n0_ := Aside0.mk (Kd.R_below (by (with_reducible repeat (first | apply Kd.R_alloc | apply Kd.R_drewN | apply Kd.R_drew)); exact HO_7.out) hb); have n1_ := Aside0.mk (Kd.R_below (by (with_reducible repeat (first | apply Kd.R_alloc | apply Kd.R_drewN | apply Kd.R_drew)); exact HO_8.out) hb); have n2_ := Aside0.mk (Kd.R_below (by (with_reducible repeat (first | apply Kd.R_alloc | apply Kd.R_drewN | apply Kd.R_drew)); exact HO171.out) hb); have n3_ := Aside0.mk (below_step (by repeat (first | (with_reducible first | exact HB.out | apply below_alloc | apply pw_below_drewN | apply below_drew1) | exact HB.out)) hb); clear HO_7; clear HO_8; clear HO171; clear HB; have HO_7 := n0_; have HO_8 := n1_; have HO171 := n2_; have HB := n3_; clear n0_ n1_ n2_ n3_; (try clear hb); (try clear hb2); (try clear hk); (try clear hi)) | ((with_reducible refine gate_callee (f := 9) rfl ?_); refine goesL_ (some 103) rfl rfl Try.func9 (by kernel_rfl) rfl #[] rfl (by (try simp only [List.map_toArray, List.map_cons, List.map_nil]); first | done | rfl | (simp only [List.length_drop, List.length_take]; rfl)) ?_; (with_reducible refine (tiklaw2_first.calls  true _ A38.out).mono ?_); rintro e w51 ⟨rfl, hb⟩; refine ⟨_, rfl, ?_⟩; have n0_ := Aside0.mk (Kd.R_below (by (with_reducible repeat (first | apply Kd.R_alloc | apply Kd.R_drewN | apply Kd.R_drew)); exact HO_7.out) hb); have n1_ := Aside0.mk (Kd.R_below (by (with_reducible repeat (first | apply Kd.R_alloc | apply Kd.R_drewN | apply Kd.R_drew)); exact HO_8.out) hb); have n2_ := Aside0.mk (Kd.R_below (by (with_reducible repeat (first | apply Kd.R_alloc | apply Kd.R_drewN | apply Kd.R_drew)); exact HO171.out) hb); have n3_ := Aside0.mk (below_step (by repeat (first | (with_reducible first | exact HB.out | apply below_alloc | apply pw_below_drewN | apply below_drew1) | exact HB.out)) hb); clear HO_7; clear HO_8; clear HO171; clear HB; have HO_7 := n0_; have HO_8 := n1_; have HO171 := n2_; have HB := n3_; clear n0_ n1_ n2_ n3_; (try clear hb); (try clear hb2); (try clear hk); (try clear hi)))
                                go_ret
                                exact ⟨by first | rfl | (simp [errW_none, errW_some] <;> rfl) | (simp only [← hji30]; first | rfl | (simp [errW_none, errW_some] <;> rfl)) | (simp [*, errW_none, errW_some] <;> rfl), by repeat (first | (with_reducible first | exact HB.out | apply below_alloc | apply pw_below_drewN | apply below_drew1) | exact HB.out)⟩
                              · rw [if_neg c41] at H
                                have c41b0 : (t177 == 1) = false := beq_eq_false_iff_ne.mpr c41
                                have c41b1 : (t177 != 1) = true := bne_iff_ne.mpr c41
                                exact absurd ((Option.some.inj H).trans hr_.out) (by simp)
                            · rw [if_neg c40] at H
                              have c40b0 : (t174 == 2) = false := beq_eq_false_iff_ne.mpr c40
                              have c40b1 : (t174 != 2) = true := bne_iff_ne.mpr c40
                              exact absurd ((Option.some.inj H).trans hr_.out) (by simp)
                          · replace c39 := Bool.eq_false_iff.mpr c39
                            subst c39
                            have H1 : (some false) = some r := by rw [if_neg (show ¬ (false = true) by decide)] at H; exact H
                            clear H
                            have H := H1
                            clear H1
                            exact absurd ((Option.some.inj H).trans hr_.out) (by simp)
                        · rw [if_neg c34] at H
                          exact absurd H (by simp)
                      · rw [if_neg c32] at H
                        exact absurd H (by simp)
                    · rw [if_neg c31] at H
                      exact absurd H (by simp)
            · rw [if_neg c15] at H
              exact absurd H (by simp)
          · rw [if_neg c14] at H
            exact absurd H (by simp)
  · replace c5 := Bool.eq_false_iff.mpr c5
    subst c5
    have H1 : (some false) = some r := by rw [if_neg (show ¬ (false = true) by decide)] at H; exact H
    clear H
    have H := H1
    clear H1
    exact absurd ((Option.some.inj H).trans hr_.out) (by simp)

end Go.Proofs.Ytabljieejnhefaa.PB
