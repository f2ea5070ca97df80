-- written for this claim by mp.py (this repo), with the kit's print; checked by the kernel alone
import Derived.Test.YtabljieejnhefaaPSx0
namespace Go.Proofs.Ytabljieejnhefaa.PS
open Go.RowKit Go.Proofs.YtabljieejnhefaaW.PrintWords Go.Proofs.YtabljieejnhefaaW.PrintLast Go.Proofs.YtabljieejnhefaaW.PrintMore
attribute [local go_sem] max2_int min2_int max_two min_two max_three min_three max_four min_four   -- for this text's walks alone
open Go.Proofs.Ytabljieejnhefaa.Hand
open Go.Proofs.Ytabljieejnhefaa.PA
set_option linter.unusedVariables false
set_option linter.unusedSimpArgs false

/-! ### tiklaw2_WireBack: function 6 -/
mutual
def tiklaw2_WireBack.j0 : Nat → List Int → Int → Bool → Option (Bool)
  | 0, _, _, _ => none
  | k + 1, x0, x1, x29 => if x29 = true then ((tiklaw2_first.f).bind fun t102 => (some t102)) else (tiklaw2_WireBack.l0 k x0 x1 ([] : List Int) 0)
def tiklaw2_WireBack.l0 : Nat → List Int → Int → List Int → Int → Option (Bool)
  | 0, _, _, _, _ => none
  | k + 1, x0, x1, x5, x6 => if x6 < (x0.length : Int) then (if 0 ≤ x6 then ((wire_Var.f k (rd x0 x6)).bind fun t104 => ((wire_Get.f t104 0).bind fun bt107 => (if (t104.length : Int) < 1 then (tiklaw2_WireBack.j2 k x0 x1 x5 x6 t104 true) else (if (t104.length : Int) > 10 then (tiklaw2_WireBack.j2 k x0 x1 x5 x6 t104 true) else (if bt107.1 = (rd x0 x6) then (if bt107.2.1 = (t104.length : Int) then (tiklaw2_WireBack.j2 k x0 x1 x5 x6 t104 (bt107.2.2 != 0)) else (tiklaw2_WireBack.j2 k x0 x1 x5 x6 t104 true)) else (tiklaw2_WireBack.j2 k x0 x1 x5 x6 t104 true)))))) else (none)) else ((wire_NewReader.f x5).bind fun bt121 => (if false = true then (some false) else (tiklaw2_WireBack.l1 k x0 0 bt121.1 bt121.2.1 bt121.2.2)))
def tiklaw2_WireBack.j2 : Nat → List Int → Int → List Int → Int → List Int → Bool → Option (Bool)
  | 0, _, _, _, _, _, _ => none
  | k + 1, x0, x1, x5, x6, x7, x73 => if x73 = true then (some false) else (if (x7.length : Int) = 0 then (none) else (if 0 ≤ (Int.tmod x1 (x7.length : Int)) then (if (Int.tmod x1 (x7.length : Int)) ≤ (x7.length : Int) then ((wire_Get.f (x7.take ((Int.tmod x1 (x7.length : Int)) : Int).toNat) 0).bind fun bt115 => (if bt115.2.2 = 3 then (if x5.length + x7.length < 140737488355328 then (tiklaw2_WireBack.l0 k x0 x1 (x5 ++ x7) (wrap64 (x6 + 1))) else (none)) else (some false))) else (none)) else (none)))
def tiklaw2_WireBack.l1 : Nat → List Int → Int → List Int → Int → Int → Option (Bool)
  | 0, _, _, _, _, _ => none
  | k + 1, x0, x15, x125000, x125001, x125002 => if x15 < (x0.length : Int) then ((wire_Reader_Num.f x125000 x125001 x125002 18446744073709551615).bind fun bt125 => (if 0 ≤ x15 then (if bt125.1 = (rd x0 x15) then (tiklaw2_WireBack.l1 k x0 (wrap64 (x15 + 1)) x125000 bt125.2.1 bt125.2.2) else (some false)) else (none))) else ((tiklaw2_first.f).bind fun t129 => (if t129 = true then ((wire_Reader_End.f x125000 x125001 x125002).bind fun bt130 => (if bt130.1 = 0 then ((wire_Reader_Num.f x125000 bt130.2.1 bt130.2.2 5).bind fun bt133 => (if bt133.1 = 0 then ((wire_Reader_Err.f x125000 bt133.2.1 bt133.2.2).bind fun bt136 => (some (bt136.1 == 3))) else (some false))) else (some false))) else (some false)))
end
def tiklaw2_WireBack.f (k : Nat) (l0 : List Int) (a1 : Int) : Option (Bool) := (tiklaw2_first.f).bind fun t101 => (if t101 = true then (if (l0.length : Int) < 1 then (tiklaw2_WireBack.j0 k l0 a1 true) else (if (l0.length : Int) > 300 then (tiklaw2_WireBack.j0 k l0 a1 true) else (tiklaw2_WireBack.j0 k l0 a1 (decide (a1 < 0))))) else (some false))
theorem tiklaw2_WireBack.mono_l : ∀ k, (∀ y0 y1 y2, LeO (tiklaw2_WireBack.j0 k y0 y1 y2) (tiklaw2_WireBack.j0 (k + 1) y0 y1 y2)) ∧ (∀ y0 y1 y2 y3, LeO (tiklaw2_WireBack.l0 k y0 y1 y2 y3) (tiklaw2_WireBack.l0 (k + 1) y0 y1 y2 y3)) ∧ (∀ y0 y1 y2 y3 y4 y5, LeO (tiklaw2_WireBack.j2 k y0 y1 y2 y3 y4 y5) (tiklaw2_WireBack.j2 (k + 1) y0 y1 y2 y3 y4 y5)) ∧ (∀ y0 y1 y2 y3 y4, LeO (tiklaw2_WireBack.l1 k y0 y1 y2 y3 y4) (tiklaw2_WireBack.l1 (k + 1) y0 y1 y2 y3 y4))
  | 0 => ⟨fun _ _ _ r h => by simp [tiklaw2_WireBack.j0] at h, fun _ _ _ _ r h => by simp [tiklaw2_WireBack.l0] at h, fun _ _ _ _ _ _ r h => by simp [tiklaw2_WireBack.j2] at h, fun _ _ _ _ _ r h => by simp [tiklaw2_WireBack.l1] at h⟩
  | k + 1 => by
    obtain ⟨ih0, ih1, ih2, ih3⟩ := tiklaw2_WireBack.mono_l k
    refine ⟨?_, ?_, ?_, ?_⟩
    · intro y0 y1 y2
      unfold tiklaw2_WireBack.j0
      repeat' first
      | (with_reducible exact ih0 _ _ _)
      | (with_reducible exact ih1 _ _ _ _)
      | (with_reducible exact ih2 _ _ _ _ _ _)
      | (with_reducible exact ih3 _ _ _ _ _)
      | (with_reducible exact wire_Var.mono _ _)
      | (with_reducible exact LeO.refl _)
      | (with_reducible exact LeO.none _)
      | (with_reducible refine LeO.ite ?_ ?_)
      | (with_reducible refine LeO.bind ?_ (fun _ => ?_))
      | exact ih0 _ _ _
      | exact ih1 _ _ _ _
      | exact ih2 _ _ _ _ _ _
      | exact ih3 _ _ _ _ _
      | exact wire_Var.mono _ _
      | exact LeO.none _
      | refine LeO.ite ?_ ?_
      | refine LeO.bind ?_ (fun _ => ?_)
    · intro y0 y1 y2 y3
      unfold tiklaw2_WireBack.l0
      repeat' first
      | (with_reducible exact ih0 _ _ _)
      | (with_reducible exact ih1 _ _ _ _)
      | (with_reducible exact ih2 _ _ _ _ _ _)
      | (with_reducible exact ih3 _ _ _ _ _)
      | (with_reducible exact wire_Var.mono _ _)
      | (with_reducible exact LeO.refl _)
      | (with_reducible exact LeO.none _)
      | (with_reducible refine LeO.ite ?_ ?_)
      | (with_reducible refine LeO.bind ?_ (fun _ => ?_))
      | exact ih0 _ _ _
      | exact ih1 _ _ _ _
      | exact ih2 _ _ _ _ _ _
      | exact ih3 _ _ _ _ _
      | exact wire_Var.mono _ _
      | exact LeO.none _
      | refine LeO.ite ?_ ?_
      | refine LeO.bind ?_ (fun _ => ?_)
    · intro y0 y1 y2 y3 y4 y5
      unfold tiklaw2_WireBack.j2
      repeat' first
      | (with_reducible exact ih0 _ _ _)
      | (with_reducible exact ih1 _ _ _ _)
      | (with_reducible exact ih2 _ _ _ _ _ _)
      | (with_reducible exact ih3 _ _ _ _ _)
      | (with_reducible exact wire_Var.mono _ _)
      | (with_reducible exact LeO.refl _)
      | (with_reducible exact LeO.none _)
      | (with_reducible refine LeO.ite ?_ ?_)
      | (with_reducible refine LeO.bind ?_ (fun _ => ?_))
      | exact ih0 _ _ _
      | exact ih1 _ _ _ _
      | exact ih2 _ _ _ _ _ _
      | exact ih3 _ _ _ _ _
      | exact wire_Var.mono _ _
      | exact LeO.none _
      | refine LeO.ite ?_ ?_
      | refine LeO.bind ?_ (fun _ => ?_)
    · intro y0 y1 y2 y3 y4
      unfold tiklaw2_WireBack.l1
      repeat' first
      | (with_reducible exact ih0 _ _ _)
      | (with_reducible exact ih1 _ _ _ _)
      | (with_reducible exact ih2 _ _ _ _ _ _)
      | (with_reducible exact ih3 _ _ _ _ _)
      | (with_reducible exact wire_Var.mono _ _)
      | (with_reducible exact LeO.refl _)
      | (with_reducible exact LeO.none _)
      | (with_reducible refine LeO.ite ?_ ?_)
      | (with_reducible refine LeO.bind ?_ (fun _ => ?_))
      | exact ih0 _ _ _
      | exact ih1 _ _ _ _
      | exact ih2 _ _ _ _ _ _
      | exact ih3 _ _ _ _ _
      | exact wire_Var.mono _ _
      | exact LeO.none _
      | refine LeO.ite ?_ ?_
      | refine LeO.bind ?_ (fun _ => ?_)
theorem tiklaw2_WireBack.mono : ∀ a0 a1 k, LeO (tiklaw2_WireBack.f k a0 a1) (tiklaw2_WireBack.f (k + 1) a0 a1) := by
  intro a0 a1 k
  obtain ⟨ih0, ih1, ih2, ih3⟩ := tiklaw2_WireBack.mono_l k
  unfold tiklaw2_WireBack.f
  repeat' first
      | (with_reducible exact ih0 _ _ _)
      | (with_reducible exact ih1 _ _ _ _)
      | (with_reducible exact ih2 _ _ _ _ _ _)
      | (with_reducible exact ih3 _ _ _ _ _)
      | (with_reducible exact wire_Var.mono _ _)
      | (with_reducible exact LeO.refl _)
      | (with_reducible exact LeO.none _)
      | (with_reducible refine LeO.ite ?_ ?_)
      | (with_reducible refine LeO.bind ?_ (fun _ => ?_))
      | exact ih0 _ _ _
      | exact ih1 _ _ _ _
      | exact ih2 _ _ _ _ _ _
      | exact ih3 _ _ _ _ _
      | exact wire_Var.mono _ _
      | exact LeO.none _
      | refine LeO.ite ?_ ?_
      | refine LeO.bind ?_ (fun _ => ?_)
set_option maxHeartbeats 8000000 in
set_option maxRecDepth 100000 in
theorem tiklaw2_WireBack.calls (k : Nat) (A0 : Option Addr) (c0 : Nat) (l0 : List Int) (a1 : Int) (r : Bool) (w : World) (hr0 : Kd.C (Kd.int .u64) w A0 l0.length l0) (hc0 : l0.length ≤ c0) (hr_ : Aside0 (r = true)) (h : tiklaw2_WireBack.f k l0 a1 = some r) :
    Calls Try.prog 6 #[.slice A0 l0.length c0, .int .i64 a1] w fun e w' => e = .returned (.bool r) ∧ Below w.heap.size w w' := by
  have HR0 := Aside0.mk hr0
  have HC0 := Aside0.mk hc0
  clear hr0 hc0
  have HB := Aside0.mk (Below.refl w.heap.size w)
  have H : ((tiklaw2_first.f).bind fun t101 => (if t101 = true then (if (l0.length : Int) < 1 then (tiklaw2_WireBack.j0 k l0 a1 true) else (if (l0.length : Int) > 300 then (tiklaw2_WireBack.j0 k l0 a1 true) else (tiklaw2_WireBack.j0 k l0 a1 (decide (a1 < 0))))) else (some false))) = some r := h
  clear h
  replace H := Option.bind_eq_some_iff.mp H
  obtain ⟨t101, A30, H⟩ := H
  replace H : (if t101 = true then (if (l0.length : Int) < 1 then (tiklaw2_WireBack.j0 k l0 a1 true) else (if (l0.length : Int) > 300 then (tiklaw2_WireBack.j0 k l0 a1 true) else (tiklaw2_WireBack.j0 k l0 a1 (decide (a1 < 0))))) else (some false)) = some r := H
  have A3 := Aside0.mk A30
  clear A30
  by_cases c4 : t101 = true
  · subst c4
    have H1 : (if (l0.length : Int) < 1 then (tiklaw2_WireBack.j0 k l0 a1 true) else (if (l0.length : Int) > 300 then (tiklaw2_WireBack.j0 k l0 a1 true) else (tiklaw2_WireBack.j0 k l0 a1 (decide (a1 < 0))))) = some r := by rw [if_pos rfl] at H; exact H
    clear H
    have H := H1
    clear H1
    have HC5 := Aside0.mk H
    clear H
    go_enter Try.func6, Try.ntmps6
    go_upto_region 3 with (first | ((with_reducible refine gate_callee (f := 9) rfl ?_); refine goesL_ (some 16) rfl rfl Try.func9 (by kernel_rfl) rfl #[] rfl (by (try simp only [List.map_toArray, List.map_cons, List.map_nil]); first | done | rfl | (simp only [List.length_drop, List.length_take]; rfl)) ?_; (with_reducible refine (tiklaw2_first.calls  true _ A3.out).mono ?_); rintro e w6 ⟨rfl, hb⟩; refine ⟨_, rfl, ?_⟩; have n0_ := Aside0.mk (below_step (by repeat (first | (with_reducible first | exact HB.out | apply below_alloc | apply pw_below_drewN | apply below_drew1) | exact HB.out)) hb); clear HB; have HB := n0_; clear n0_; (try clear hb); (try clear hb2); (try clear hk); (try clear hi)))
    (try simp only [Act.put, List.setIfInBounds_toArray, List.set_cons_zero, List.set_cons_succ])
    go_cut [29] (fun v29 wc => ∃ (kq : Nat) (x29_4 : Bool), v29 = .bool x29_4 ∧ Aside0 (tiklaw2_WireBack.j0 kq l0 a1 x29_4 = some r) ∧ Aside0 (kq ≤ k) ∧ Aside0 (Below w.heap.size w wc))
    case first =>
      have H := HC5.out
      clear HC5
      by_cases c7 : (l0.length : Int) < 1
      · rw [if_pos c7] at H
        have c7b0 : decide ((l0.length : Int) < 1) = true := decide_eq_true c7
        have c7b1 : decide (l0.length < 1) = true := decide_eq_true (by omega)
        clear c7
        (first | rw [c7b0] | (simp only [i64_w, i32_w]; rw [c7b0]) | skip)
        have H' := Aside0.mk H
        clear H
        go_wp2
        go_meet
        case rel => exact ⟨_, (true), (by first | rfl | (simp; done) | (simp [*]; done)), H', ⟨by first | omega | exact Nat.le_refl _⟩, ⟨by repeat (first | (with_reducible first | exact HB.out | apply below_alloc | apply pw_below_drewN | apply below_drew1) | exact HB.out)⟩⟩
      · rw [if_neg c7] at H
        have c7b0 : decide ((l0.length : Int) < 1) = false := decide_eq_false c7
        have c7b1 : decide (l0.length < 1) = false := decide_eq_false (by omega)
        clear c7
        (first | rw [c7b0] | (simp only [i64_w, i32_w]; rw [c7b0]) | skip)
        by_cases c8 : (l0.length : Int) > 300
        · rw [if_pos c8] at H
          have c8b0 : decide (300 < (l0.length : Int)) = true := decide_eq_true c8
          have c8b1 : decide (300 < l0.length) = true := decide_eq_true (by omega)
          clear c8
          have H' := Aside0.mk H
          clear H
          go_wp2
          go_meet
          case rel => exact ⟨_, (true), (by first | rfl | (simp; done) | (simp [*]; done)), H', ⟨by first | omega | exact Nat.le_refl _⟩, ⟨by repeat (first | (with_reducible first | exact HB.out | apply below_alloc | apply pw_below_drewN | apply below_drew1) | exact HB.out)⟩⟩
        · rw [if_neg c8] at H
          have c8b0 : decide (300 < (l0.length : Int)) = false := decide_eq_false c8
          have c8b1 : decide (300 < l0.length) = false := decide_eq_false (by omega)
          clear c8
          have H' := Aside0.mk H
          clear H
          go_wp2
          go_meet
          case rel => exact ⟨_, (decide (a1 < 0)), (by first | rfl | (simp; done) | (simp [*]; done)), H', ⟨by first | omega | exact Nat.le_refl _⟩, ⟨by repeat (first | (with_reducible first | exact HB.out | apply below_alloc | apply pw_below_drewN | apply below_drew1) | exact HB.out)⟩⟩
    case rest =>
      clear HC5
      try clear p2
      try clear c4
      try clear c6
      try clear c7
      try clear c7b0
      try clear c7b1
      try clear c8
      try clear c8b0
      try clear c8b1
      obtain ⟨kq, x29_4, rfl, HA, HJ4, HB⟩ := hcut
      cases kq with
      | zero => exact absurd HA.out (by simp [tiklaw2_WireBack.j0])
      | succ kj4 =>
        have H := HA.out
        clear HA
        simp only [tiklaw2_WireBack.j0] at H
        by_cases c9 : x29_4 = true
        · subst c9
          have H1 : ((tiklaw2_first.f).bind fun t102 => (some t102)) = some r := by rw [if_pos rfl] at H; exact H
          clear H
          have H := H1
          clear H1
          replace H := Option.bind_eq_some_iff.mp H
          obtain ⟨t102, A100, H⟩ := H
          replace H : (some t102) = some r := H
          have A10 := Aside0.mk A100
          clear A100
          obtain rfl := Option.some.inj H
          go_wp2_with (first | ((with_reducible refine gate_callee (f := 9) rfl ?_); refine goesL_ (some 30) rfl rfl Try.func9 (by kernel_rfl) rfl #[] rfl (by (try simp only [List.map_toArray, List.map_cons, List.map_nil]); first | done | rfl | (simp only [List.length_drop, List.length_take]; rfl)) ?_; (with_reducible refine (tiklaw2_first.calls  t102 _ A10.out).mono ?_); rintro e w11 ⟨rfl, hb⟩; refine ⟨_, rfl, ?_⟩; have n0_ := Aside0.mk (below_step (by repeat (first | (with_reducible first | exact HB.out | apply below_alloc | apply pw_below_drewN | apply below_drew1) | exact HB.out)) hb); clear HB; have HB := n0_; clear n0_; (try clear hb); (try clear hb2); (try clear hk); (try clear hi)))
          go_ret
          exact ⟨by first | rfl | (simp [errW_none, errW_some] <;> rfl) | (simp [*, errW_none, errW_some] <;> rfl), by repeat (first | (with_reducible first | exact HB.out | apply below_alloc | apply pw_below_drewN | apply below_drew1) | exact HB.out)⟩
        · replace c9 := Bool.eq_false_iff.mpr c9
          subst c9
          have H1 : (tiklaw2_WireBack.l0 kj4 l0 a1 ([] : List Int) 0) = some r := by rw [if_neg (show ¬ (false = true) by decide)] at H; exact H
          clear H
          have H := H1
          clear H1
          have H' := Aside0.mk H
          clear H
          go_wp2
          go_loopg [5, 6] kj4 (fun kq v5 v6 w' => ∃ (x5_2 : List Int) (x6_2 : Int), v6 = .int .i64 x6_2 ∧ Aside0 (tiklaw2_WireBack.l0 kq l0 a1 x5_2 x6_2 = some r) ∧ Aside0 (kq ≤ kj4) ∧ Aside0 (Kd.R (Kd.int .u8) 5 w' w.heap.size (fun _ => True) v5 x5_2) ∧ Aside0 (Below w.heap.size w w'))
          case atStart => exact ⟨(([] : List Int)), (0), (by first | rfl | (simp; done) | (simp [*]; done)), H', ⟨Nat.le_refl _⟩, ⟨by first | exact Kd.R_nil _ _ _ _ _ | exact Kd.N_nil _ _ _ _ _ | exact Kd.V_nil _ _ _ _ _ | exact Kd.Q_nil _ _ _ _ _ | exact Kd.S_nil _ _ _ _ _⟩, ⟨by repeat (first | (with_reducible first | exact HB.out | apply below_alloc | apply pw_below_drewN | apply below_drew1) | exact HB.out)⟩⟩
          case round =>
            clear H'
            try clear p2
            try clear c4
            try clear c6
            try clear c7
            try clear c7b0
            try clear c7b1
            try clear c8
            try clear c8b0
            try clear c8b1
            try clear c9
            try clear p2
            obtain ⟨x5_2, x6_2, rfl, HA, HK2, HO_5, HB⟩ := hrel
            cases gk with
            | zero => exact absurd HA.out (by simp [tiklaw2_WireBack.l0])
            | succ k2 =>
              have H := HA.out
              clear HA
              simp only [tiklaw2_WireBack.l0] at H
              by_cases c12 : x6_2 < (l0.length : Int)
              · rw [if_pos c12] at H
                have c12b0 : decide (x6_2 < (l0.length : Int)) = true := decide_eq_true c12
                clear c12
                by_cases c13 : 0 ≤ x6_2
                · rw [if_pos c13] at H
                  have c13b0 : decide (0 ≤ x6_2) = true := decide_eq_true c13
                  clear c13
                  replace H := Option.bind_eq_some_iff.mp H
                  obtain ⟨t104, A140, H⟩ := H
                  replace H : ((wire_Get.f t104 0).bind fun bt107 => (if (t104.length : Int) < 1 then (tiklaw2_WireBack.j2 k2 l0 a1 x5_2 x6_2 t104 true) else (if (t104.length : Int) > 10 then (tiklaw2_WireBack.j2 k2 l0 a1 x5_2 x6_2 t104 true) else (if bt107.1 = (rd l0 x6_2) then (if bt107.2.1 = (t104.length : Int) then (tiklaw2_WireBack.j2 k2 l0 a1 x5_2 x6_2 t104 (bt107.2.2 != 0)) else (tiklaw2_WireBack.j2 k2 l0 a1 x5_2 x6_2 t104 true)) else (tiklaw2_WireBack.j2 k2 l0 a1 x5_2 x6_2 t104 true))))) = some r := H
                  have A14 := Aside0.mk A140
                  clear A140
                  replace H := Option.bind_eq_some_iff.mp H
                  obtain ⟨⟨t107, t108, t109⟩, A150, H⟩ := H
                  replace H : (if (t104.length : Int) < 1 then (tiklaw2_WireBack.j2 k2 l0 a1 x5_2 x6_2 t104 true) else (if (t104.length : Int) > 10 then (tiklaw2_WireBack.j2 k2 l0 a1 x5_2 x6_2 t104 true) else (if t107 = (rd l0 x6_2) then (if t108 = (t104.length : Int) then (tiklaw2_WireBack.j2 k2 l0 a1 x5_2 x6_2 t104 (t109 != 0)) else (tiklaw2_WireBack.j2 k2 l0 a1 x5_2 x6_2 t104 true)) else (tiklaw2_WireBack.j2 k2 l0 a1 x5_2 x6_2 t104 true)))) = some r := H
                  have A15 := Aside0.mk A150
                  clear A150
                  have HC16 := Aside0.mk H
                  clear H
                  have p103 : 0 ≤ (x6_2 : Int) := of_decide_eq_true (by first | (with_reducible assumption) | assumption)
                  have q103 : x6_2 < (l0.length : Int) := of_decide_eq_true (by first | (with_reducible assumption) | assumption)
                  obtain ⟨ad103, e103, hx103_0⟩ := Kd.at_int HR0.out x6_2 p103 q103
                  cases e103
                  replace hx103_0 := (HB.out.cell (World.block_lt_of_cell? w _ hx103_0)).trans hx103_0
                  replace p103 := eq_true p103
                  replace q103 := eq_true q103
                  go_upto_region 11 with (first | ((with_reducible refine gate_callee (f := 13) rfl ?_); refine goesL_ (some 41) rfl rfl Try.func13 (by kernel_rfl) rfl #[.int .u64 (rd l0 x6_2)] rfl (by (try simp only [List.map_toArray, List.map_cons, List.map_nil]); first | done | rfl | (simp only [List.length_drop, List.length_take]; rfl)) ?_; (with_reducible refine (wire_Var.calls k2 (rd l0 x6_2) t104 _ A14.out).mono ?_); rintro e w17 ⟨v105, rfl, ho0, hb⟩; refine ⟨_, rfl, ?_⟩; have n0_ := Aside0.mk (Kd.R_elder' (by (with_reducible repeat (first | apply Kd.R_alloc | apply Kd.R_drewN | apply Kd.R_drew)); exact HO_5.out) (Kd.R_base ho0) hb); have n1_ := Aside0.mk (Kd.R_lower (Kd.R_new' ho0 (Kd.R_lt (by (with_reducible repeat (first | apply Kd.R_alloc | apply Kd.R_drewN | apply Kd.R_drew)); exact HO_5.out))) (below_size (by repeat (first | (with_reducible first | exact HB.out | apply below_alloc | apply pw_below_drewN | apply below_drew1) | exact HB.out)))); have n2_ := Aside0.mk (below_step (by repeat (first | (with_reducible first | exact HB.out | apply below_alloc | apply pw_below_drewN | apply below_drew1) | exact HB.out)) hb); clear HO_5; clear HB; have HO_5 := n0_; have HO106 := n1_; have HB := n2_; clear n0_ n1_ n2_; (try clear hb); (try clear hb2); (try clear hk); (try clear hi); (try clear ho0); obtain ⟨Ao18, co18, eo18⟩ := Kd.R_slice HO106.out; subst eo18) | ((with_reducible refine gate_callee (f := 10) rfl ?_); refine goesL_ (some 44) rfl rfl Try.func10 (by kernel_rfl) rfl #[.slice Ao18 t104.length co18, .int .i64 0] rfl (by (try simp only [List.map_toArray, List.map_cons, List.map_nil]); first | done | rfl | (simp only [List.length_drop, List.length_take]; rfl)) ?_; (with_reducible refine (wire_Get.calls _ _ t104 0 t107 t108 t109 _ ?side1 ?side2 A15.out).mono ?_); (case side1 => repeat (first | exact (Kd.R_reads' HO106.out).2.2 | (with_reducible refine Kd.C_alloc ?_ _) | (with_reducible refine Kd.C_drewN ?_ _) | (with_reducible refine Kd.C_drew ?_))); (case side2 => exact (Kd.R_reads' HO106.out).2.1); rintro e w19 ⟨rfl, hb⟩; refine ⟨_, rfl, ?_⟩; have n0_ := Aside0.mk (Kd.R_below (by (with_reducible repeat (first | apply Kd.R_alloc | apply Kd.R_drewN | apply Kd.R_drew)); exact HO_5.out) hb); have n1_ := Aside0.mk (Kd.R_below (by (with_reducible repeat (first | apply Kd.R_alloc | apply Kd.R_drewN | apply Kd.R_drew)); exact HO106.out) hb); have n2_ := Aside0.mk (below_step (by repeat (first | (with_reducible first | exact HB.out | apply below_alloc | apply pw_below_drewN | apply below_drew1) | exact HB.out)) hb); clear HO_5; clear HO106; clear HB; have HO_5 := n0_; have HO106 := n1_; have HB := n2_; clear n0_ n1_ n2_; (try clear hb); (try clear hb2); (try clear hk); (try clear hi)))
                  (try simp only [Act.put, List.setIfInBounds_toArray, List.set_cons_zero, List.set_cons_succ])
                  go_cut [73] (fun v73 wc => ∃ (kq : Nat) (x73_15 : Bool), v73 = .bool x73_15 ∧ Aside0 (tiklaw2_WireBack.j2 kq l0 a1 x5_2 x6_2 t104 x73_15 = some r) ∧ Aside0 (kq ≤ k2) ∧ Aside0 (Kd.R (Kd.int .u8) 5 wc w.heap.size (fun k_ => some k_ ≠ ((.slice Ao18 t104.length co18) : Value).ownBlock) u5 x5_2) ∧ Aside0 (Kd.R (Kd.int .u8) 5 wc w.heap.size (fun k_ => some k_ ≠ (u5 : Value).ownBlock) (.slice Ao18 t104.length co18) t104) ∧ Aside0 (Below w.heap.size w wc))
                  case first =>
                    have H := HC16.out
                    clear HC16
                    by_cases c20 : (t104.length : Int) < 1
                    · rw [if_pos c20] at H
                      have c20b0 : decide ((t104.length : Int) < 1) = true := decide_eq_true c20
                      have c20b1 : decide (t104.length < 1) = true := decide_eq_true (by omega)
                      clear c20
                      (first | rw [c20b0] | (simp only [i64_w, i32_w]; rw [c20b0]) | skip)
                      have H' := Aside0.mk H
                      clear H
                      go_wp2
                      go_meet
                      case rel => exact ⟨_, (true), (by first | rfl | (simp; done) | (simp [*]; done)), H', ⟨by have := HJ4.out; have := HK2.out; first | omega | exact Nat.le_refl _⟩, ⟨by (with_reducible repeat (first | apply Kd.R_alloc | apply Kd.R_drewN | apply Kd.R_drew)); exact Kd.R_mono HO_5.out (fun _ hk => hk.2)⟩, ⟨by (with_reducible repeat (first | apply Kd.R_alloc | apply Kd.R_drewN | apply Kd.R_drew)); exact Kd.R_mono HO106.out (fun _ hk => hk.2)⟩, ⟨by repeat (first | (with_reducible first | exact HB.out | apply below_alloc | apply pw_below_drewN | apply below_drew1) | exact HB.out)⟩⟩
                    · rw [if_neg c20] at H
                      have c20b0 : decide ((t104.length : Int) < 1) = false := decide_eq_false c20
                      have c20b1 : decide (t104.length < 1) = false := decide_eq_false (by omega)
                      clear c20
                      (first | rw [c20b0] | (simp only [i64_w, i32_w]; rw [c20b0]) | skip)
                      by_cases c21 : (t104.length : Int) > 10
                      · rw [if_pos c21] at H
                        have c21b0 : decide (10 < (t104.length : Int)) = true := decide_eq_true c21
                        have c21b1 : decide (10 < t104.length) = true := decide_eq_true (by omega)
                        clear c21
                        have H' := Aside0.mk H
                        clear H
                        go_wp2
                        go_meet
                        case rel => exact ⟨_, (true), (by first | rfl | (simp; done) | (simp [*]; done)), H', ⟨by have := HJ4.out; have := HK2.out; first | omega | exact Nat.le_refl _⟩, ⟨by (with_reducible repeat (first | apply Kd.R_alloc | apply Kd.R_drewN | apply Kd.R_drew)); exact Kd.R_mono HO_5.out (fun _ hk => hk.2)⟩, ⟨by (with_reducible repeat (first | apply Kd.R_alloc | apply Kd.R_drewN | apply Kd.R_drew)); exact Kd.R_mono HO106.out (fun _ hk => hk.2)⟩, ⟨by repeat (first | (with_reducible first | exact HB.out | apply below_alloc | apply pw_below_drewN | apply below_drew1) | exact HB.out)⟩⟩
                      · rw [if_neg c21] at H
                        have c21b0 : decide (10 < (t104.length : Int)) = false := decide_eq_false c21
                        have c21b1 : decide (10 < t104.length) = false := decide_eq_false (by omega)
                        clear c21
                        by_cases c22 : t107 = (rd l0 x6_2)
                        · rw [if_pos c22] at H
                          have c22b0 : (t107 == (rd l0 x6_2)) = true := beq_iff_eq.mpr c22
                          have c22b1 : (t107 != (rd l0 x6_2)) = false := bne_eq_false_iff_eq.mpr c22
                          clear c22
                          by_cases c23 : t108 = (t104.length : Int)
                          · rw [if_pos c23] at H
                            have c23b0 : (t108 == (t104.length : Int)) = true := beq_iff_eq.mpr c23
                            have c23b1 : (t108 != (t104.length : Int)) = false := bne_eq_false_iff_eq.mpr c23
                            clear c23
                            have H' := Aside0.mk H
                            clear H
                            have p110 : 0 ≤ (x6_2 : Int) := of_decide_eq_true (by first | (with_reducible assumption) | assumption)
                            have q110 : x6_2 < (l0.length : Int) := of_decide_eq_true (by first | (with_reducible assumption) | assumption)
                            obtain ⟨ad110, e110, hx110_0⟩ := Kd.at_int HR0.out x6_2 p110 q110
                            obtain rfl : ad103 = ad110 := (by injection e110)
                            replace hx110_0 := (HB.out.cell (World.block_lt_of_cell? w _ hx110_0)).trans hx110_0
                            replace p110 := eq_true p110
                            replace q110 := eq_true q110
                            go_wp2
                            go_meet
                            case rel => exact ⟨_, ((t109 != 0)), (by first | rfl | (simp; done) | (simp [*]; done)), H', ⟨by have := HJ4.out; have := HK2.out; first | omega | exact Nat.le_refl _⟩, ⟨by (with_reducible repeat (first | apply Kd.R_alloc | apply Kd.R_drewN | apply Kd.R_drew)); exact Kd.R_mono HO_5.out (fun _ hk => hk.2)⟩, ⟨by (with_reducible repeat (first | apply Kd.R_alloc | apply Kd.R_drewN | apply Kd.R_drew)); exact Kd.R_mono HO106.out (fun _ hk => hk.2)⟩, ⟨by repeat (first | (with_reducible first | exact HB.out | apply below_alloc | apply pw_below_drewN | apply below_drew1) | exact HB.out)⟩⟩
                          · rw [if_neg c23] at H
                            have c23b0 : (t108 == (t104.length : Int)) = false := beq_eq_false_iff_ne.mpr c23
                            have c23b1 : (t108 != (t104.length : Int)) = true := bne_iff_ne.mpr c23
                            have H' := Aside0.mk H
                            clear H
                            have p110 : 0 ≤ (x6_2 : Int) := of_decide_eq_true (by first | (with_reducible assumption) | assumption)
                            have q110 : x6_2 < (l0.length : Int) := of_decide_eq_true (by first | (with_reducible assumption) | assumption)
                            obtain ⟨ad110, e110, hx110_0⟩ := Kd.at_int HR0.out x6_2 p110 q110
                            obtain rfl : ad103 = ad110 := (by injection e110)
                            replace hx110_0 := (HB.out.cell (World.block_lt_of_cell? w _ hx110_0)).trans hx110_0
                            replace p110 := eq_true p110
                            replace q110 := eq_true q110
                            go_wp2
                            go_meet
                            case rel => exact ⟨_, (true), (by first | rfl | (simp; done) | (simp [*]; done)), H', ⟨by have := HJ4.out; have := HK2.out; first | omega | exact Nat.le_refl _⟩, ⟨by (with_reducible repeat (first | apply Kd.R_alloc | apply Kd.R_drewN | apply Kd.R_drew)); exact Kd.R_mono HO_5.out (fun _ hk => hk.2)⟩, ⟨by (with_reducible repeat (first | apply Kd.R_alloc | apply Kd.R_drewN | apply Kd.R_drew)); exact Kd.R_mono HO106.out (fun _ hk => hk.2)⟩, ⟨by repeat (first | (with_reducible first | exact HB.out | apply below_alloc | apply pw_below_drewN | apply below_drew1) | exact HB.out)⟩⟩
                        · rw [if_neg c22] at H
                          have c22b0 : (t107 == (rd l0 x6_2)) = false := beq_eq_false_iff_ne.mpr c22
                          have c22b1 : (t107 != (rd l0 x6_2)) = true := bne_iff_ne.mpr c22
                          have H' := Aside0.mk H
                          clear H
                          have p110 : 0 ≤ (x6_2 : Int) := of_decide_eq_true (by first | (with_reducible assumption) | assumption)
                          have q110 : x6_2 < (l0.length : Int) := of_decide_eq_true (by first | (with_reducible assumption) | assumption)
                          obtain ⟨ad110, e110, hx110_0⟩ := Kd.at_int HR0.out x6_2 p110 q110
                          obtain rfl : ad103 = ad110 := (by injection e110)
                          replace hx110_0 := (HB.out.cell (World.block_lt_of_cell? w _ hx110_0)).trans hx110_0
                          replace p110 := eq_true p110
                          replace q110 := eq_true q110
                          go_wp2
                          go_meet
                          case rel => exact ⟨_, (true), (by first | rfl | (simp; done) | (simp [*]; done)), H', ⟨by have := HJ4.out; have := HK2.out; first | omega | exact Nat.le_refl _⟩, ⟨by (with_reducible repeat (first | apply Kd.R_alloc | apply Kd.R_drewN | apply Kd.R_drew)); exact Kd.R_mono HO_5.out (fun _ hk => hk.2)⟩, ⟨by (with_reducible repeat (first | apply Kd.R_alloc | apply Kd.R_drewN | apply Kd.R_drew)); exact Kd.R_mono HO106.out (fun _ hk => hk.2)⟩, ⟨by repeat (first | (with_reducible first | exact HB.out | apply below_alloc | apply pw_below_drewN | apply below_drew1) | exact HB.out)⟩⟩
                  case rest =>
                    clear HC16
                    try clear c1
                    try clear p1
                    try clear q1
                    try clear hx1
                    try clear c2
                    try clear p2
                    try clear c4
                    try clear c6
                    try clear c7
                    try clear c7b0
                    try clear c7b1
                    try clear c8
                    try clear c8b0
                    try clear c8b1
                    try clear c9
                    try clear c10
                    try clear p10
                    try clear q10
                    try clear hx10
                    try clear p11
                    try clear q11
                    try clear hx11
                    try clear c12
                    try clear c12b0
                    try clear c13
                    try clear c13b0
                    try clear c20
                    try clear c20b0
                    try clear c20b1
                    try clear c21
                    try clear c21b0
                    try clear c21b1
                    try clear c22
                    try clear c22b0
                    try clear c22b1
                    try clear c23
                    try clear c23b0
                    try clear c23b1
                    try clear hx103_0
                    try clear hx110_0
                    try clear p103
                    try clear p110
                    try clear p2
                    try clear q103
                    try clear q110
                    obtain ⟨kq, x73_15, rfl, HA, HJ15, HO_5, HO_7, HB⟩ := hcut
                    cases kq with
                    | zero => exact absurd HA.out (by simp [tiklaw2_WireBack.j2])
                    | succ kj15 =>
                      have H := HA.out
                      clear HA
                      simp only [tiklaw2_WireBack.j2] at H
                      by_cases c24 : x73_15 = true
                      · subst c24
                        have H1 : (some false) = some r := by rw [if_pos rfl] at H; exact H
                        clear H
                        have H := H1
                        clear H1
                        exact absurd ((Option.some.inj H).trans hr_.out) (by simp)
                      · replace c24 := Bool.eq_false_iff.mpr c24
                        subst c24
                        have H1 : (if (t104.length : Int) = 0 then (none) else (if 0 ≤ (Int.tmod a1 (t104.length : Int)) then (if (Int.tmod a1 (t104.length : Int)) ≤ (t104.length : Int) then ((wire_Get.f (t104.take ((Int.tmod a1 (t104.length : Int)) : Int).toNat) 0).bind fun bt115 => (if bt115.2.2 = 3 then (if x5_2.length + t104.length < 140737488355328 then (tiklaw2_WireBack.l0 kj15 l0 a1 (x5_2 ++ t104) (wrap64 (x6_2 + 1))) else (none)) else (some false))) else (none)) else (none))) = some r := by rw [if_neg (show ¬ (false = true) by decide)] at H; exact H
                        clear H
                        have H := H1
                        clear H1
                        by_cases c25 : (t104.length : Int) = 0
                        · rw [if_pos c25] at H
                          exact absurd H (by simp)
                        · rw [if_neg c25] at H
                          have c25b0 : ((t104.length : Int) == 0) = false := beq_eq_false_iff_ne.mpr c25
                          have c25b1 : ((t104.length : Int) != 0) = true := bne_iff_ne.mpr c25
                          have c25b2 : ¬ (t104 = []) := fun h_ => c25 (by rw [h_]; rfl)
                          obtain ⟨ji26, hji26⟩ : ∃ j_ : Int, (Int.tmod a1 (t104.length : Int)) = j_ := ⟨_, rfl⟩
                          replace H : (if 0 ≤ (ji26) then (if (ji26) ≤ (t104.length : Int) then ((wire_Get.f (t104.take ((ji26) : Int).toNat) 0).bind fun bt115 => (if bt115.2.2 = 3 then (if x5_2.length + t104.length < 140737488355328 then (tiklaw2_WireBack.l0 kj15 l0 a1 (x5_2 ++ t104) (wrap64 (x6_2 + 1))) else (none)) else (some false))) else (none)) else (none)) = some r := by first | (rw [hji26] at H; exact H) | (simp only [hji26] at H ⊢; exact H)
                          by_cases c27 : 0 ≤ (ji26)
                          · rw [if_pos c27] at H
                            have c27b0 := eq_true c27
                            have c27b1 : decide (0 ≤ (ji26)) = true := decide_eq_true c27
                            clear c27
                            by_cases c28 : (ji26) ≤ (t104.length : Int)
                            · rw [if_pos c28] at H
                              have c28b0 := eq_true c28
                              have c28b1 : decide ((ji26) ≤ (t104.length : Int)) = true := decide_eq_true c28
                              clear c28
                              obtain ⟨y111, hy111⟩ : ∃ y_ : List Int, y_ = (t104.take ((ji26) : Int).toNat) := ⟨_, rfl⟩
                              replace H : ((wire_Get.f y111 0).bind fun bt115 => (if bt115.2.2 = 3 then (if x5_2.length + t104.length < 140737488355328 then (tiklaw2_WireBack.l0 kj15 l0 a1 (x5_2 ++ t104) (wrap64 (x6_2 + 1))) else (none)) else (some false))) = some r := by first | (rw [hy111]; with_reducible exact H) | (have H2_ := (Option.bind_some _ _).symm.trans H; rw [hy111]; with_reducible exact H2_) | (have H2_ := (Option.bind_some _ _).symm.trans H; with_reducible exact H2_) | with_reducible exact H | (rw [hy111]; exact H) | exact H
                              have Ny111 := Aside0.mk hy111
                              clear hy111
                              replace H := Option.bind_eq_some_iff.mp H
                              obtain ⟨⟨t115, t116, t117⟩, A290, H⟩ := H
                              replace H : (if t117 = 3 then (if x5_2.length + t104.length < 140737488355328 then (tiklaw2_WireBack.l0 kj15 l0 a1 (x5_2 ++ t104) (wrap64 (x6_2 + 1))) else (none)) else (some false)) = some r := H
                              have A29 := Aside0.mk A290
                              clear A290
                              by_cases c30 : t117 = 3
                              · rw [if_pos c30] at H
                                have c30b0 : (t117 == 3) = true := beq_iff_eq.mpr c30
                                have c30b1 : (t117 != 3) = false := bne_eq_false_iff_eq.mpr c30
                                clear c30
                                by_cases c31 : x5_2.length + t104.length < 140737488355328
                                · rw [if_pos c31] at H
                                  have LMc31 := Aside0.mk c31
                                  clear c31
                                  obtain ⟨y118, hy118⟩ : ∃ y_ : List Int, y_ = (x5_2 ++ t104) := ⟨_, rfl⟩
                                  replace H : (tiklaw2_WireBack.l0 kj15 l0 a1 y118 (wrap64 (x6_2 + 1))) = some r := by first | (rw [hy118]; with_reducible exact H) | (have H2_ := (Option.bind_some _ _).symm.trans H; rw [hy118]; with_reducible exact H2_) | (have H2_ := (Option.bind_some _ _).symm.trans H; with_reducible exact H2_) | with_reducible exact H | (rw [hy118]; exact H) | exact H
                                  have Ny118 := Aside0.mk hy118
                                  clear hy118
                                  have H' := Aside0.mk H
                                  clear H
                                  have q32 : ((ji26) : Int) ≤ ((t104.length : Int) : Int) := of_decide_eq_true (by first | (with_reducible assumption) | assumption)
                                  obtain ⟨i032, hi032, _, hsz32, _⟩ := info_parts info5
                                  have hroom32 : t104.length ≤ co18 := (Kd.R_reads' HO_7.out).2.1
                                  have hC32 : Kd.C (Kd.int .u8) _ Ao18 t104.length t104 := (Kd.R_reads' HO_7.out).2.2
                                  have hcut32 := cut_to (P := Try.prog) 23 5 .i64 Try.underlying23 hi032 Ao18 t104.length co18 (ji26) (of_decide_eq_true (by first | (with_reducible assumption) | assumption)) q32 hroom32
                                  have hr32 := Kd.C_take (m := ((ji26) : Int).toNat) hC32 (by omega)
                                  have hy32 : y111.length = ((ji26) : Int).toNat := (by rw [Ny111.out, List.length_take]; omega)
                                  rw [← Ny111.out] at hr32
                                  rw [← hy32] at hcut32
                                  have HR114 := Aside0.mk hr32
                                  have HC114 := Aside0.mk (show y111.length ≤ co18 from by omega)
                                  clear hr32 hC32 hroom32 hi032 hsz32
                                  have KY32 := Aside0.mk hy32
                                  clear hy32
                                  have KL32 := Aside0.mk (show ((ji26) : Int).toNat ≤ t104.length from by omega)
                                  replace q32 := eq_true q32
                                  go_wp2_with (first | ((with_reducible refine gate_callee (f := 10) rfl ?_); refine goesL_ (some 81) rfl rfl Try.func10 (by kernel_rfl) rfl #[.slice Ao18 y111.length co18, .int .i64 0] rfl (by (try simp only [List.map_toArray, List.map_cons, List.map_nil]); first | done | rfl | (simp only [List.length_drop, List.length_take]; rfl)) ?_; (with_reducible refine (wire_Get.calls _ _ y111 0 t115 t116 t117 _ ?side1 ?side2 A29.out).mono ?_); (case side1 => repeat (first | exact (by repeat (first | (with_reducible exact HR114.out) | (with_reducible refine Kd.C_alloc ?_ _) | (with_reducible refine Kd.C_drewN ?_ _) | (with_reducible refine Kd.C_drew ?_) | exact HR114.out)) | (with_reducible refine Kd.C_alloc ?_ _) | (with_reducible refine Kd.C_drewN ?_ _) | (with_reducible refine Kd.C_drew ?_))); (case side2 => exact HC114.out); rintro e w33 ⟨rfl, hb⟩; refine ⟨_, rfl, ?_⟩; have n0_ := Aside0.mk (Kd.R_below (by (with_reducible repeat (first | apply Kd.R_alloc | apply Kd.R_drewN | apply Kd.R_drew)); exact HO_5.out) hb); have n1_ := Aside0.mk (Kd.R_below (by (with_reducible repeat (first | apply Kd.R_alloc | apply Kd.R_drewN | apply Kd.R_drew)); exact HO_7.out) hb); have n2_ := Aside0.mk (Kd.C_below (by repeat (first | (with_reducible exact HR114.out) | (with_reducible refine Kd.C_alloc ?_ _) | (with_reducible refine Kd.C_drewN ?_ _) | (with_reducible refine Kd.C_drew ?_) | exact HR114.out)) hb); have n3_ := Aside0.mk (below_step (by repeat (first | (with_reducible first | exact HB.out | apply below_alloc | apply pw_below_drewN | apply below_drew1) | exact HB.out)) hb); clear HO_5; clear HO_7; clear HR114; clear HB; have HO_5 := n0_; have HO_7 := n1_; have HR114 := n2_; have HB := n3_; clear n0_ n1_ n2_ n3_; (try clear hb); (try clear hb2); (try clear hk); (try clear hi)) | ((with_reducible refine gate_builtin (b := .append) (xs := #[.tmp 87, .tmp 88]) rfl ?_); (try (refine gate_guard (by rfl) ?_; dsimp only)); at_builtin; refine Kd.R_append_rows (Kd.int .u8) (w0 := w) w.heap.size rfl (.tmp 87) (.tmp 88) 23 5 (.int .u8 0) 1 rfl Try.underlying23 info5 rfl (by decide) (by omega) u5 x5_2 t104 _ _ _ (fun k_ => some k_ ≠ (.slice Ao18 t104.length co18 : Value).ownBlock) (fun _ => False) rfl rfl ?aO ?aR (fun _ _ h => h) (fun _ h => h.elim) ?aF ?aB ?aS ?aL ?_; (case aR => repeat (first | exact (Kd.R_reads' HO_7.out).2.2 | (with_reducible refine Kd.C_alloc ?_ _) | (with_reducible refine Kd.C_drewN ?_ _) | (with_reducible refine Kd.C_drew ?_))); (case aB => exact (by repeat (first | (with_reducible first | exact HB.out | apply below_alloc | apply pw_below_drewN | apply below_drew1) | exact HB.out))); (case aF => exact (fun k_ hk => Kd.fresh' (Kd.R_lt (by (with_reducible repeat (first | apply Kd.R_alloc | apply Kd.R_drewN | apply Kd.R_drew)); exact HO_7.out)) k_ hk)); (case aO => exact (by (with_reducible repeat (first | apply Kd.R_alloc | apply Kd.R_drewN | apply Kd.R_drew)); exact HO_5.out)); (case aS => exact (below_size (by repeat (first | (with_reducible first | exact HB.out | apply below_alloc | apply pw_below_drewN | apply below_drew1) | exact HB.out)))); (case aL => have := LMc31.out; omega); intro v119 w34 ho hb hg hat; rw [← Ny118.out] at ho; have n0_ := Aside0.mk (Kd.R_after (ok := (fun _ => True)) (by (with_reducible repeat (first | apply Kd.R_alloc | apply Kd.R_drewN | apply Kd.R_drew)); exact Kd.R_mono HO_7.out (fun _ hk => ⟨trivial, hk⟩)) hg hat); have n1_ := Aside0.mk (hb); have n2_ := Aside0.mk ((show Kd.C (Kd.int .u8) w34 Ao18 y111.length y111 from by rw [Ny111.out]; exact Kd.C_take (m := ((ji26) : Int).toNat) ((Kd.R_reads' (Kd.R_after (ok := (fun _ => True)) (by (with_reducible repeat (first | apply Kd.R_alloc | apply Kd.R_drewN | apply Kd.R_drew)); exact Kd.R_mono HO_7.out (fun _ hk => ⟨trivial, hk⟩)) hg hat)).2.2) KL32.out)); have n3_ := Aside0.mk (ho); clear HO_7; clear HB; clear HR114; clear HO_5; have HO_7 := n0_; have HB := n1_; have HR114 := n2_; have HO120 := n3_; clear n0_ n1_ n2_ n3_; clear ho hb hg hat))
                                  go_roundg kj15
                                  case measure => have := HJ4.out; have := HK2.out; have := HJ15.out; omega
                                  case rel => exact ⟨(y118), (wrap64 (x6_2 + 1)), (by first | rfl | (simp; done) | (simp [*]; done)), H', ⟨by have := HJ4.out; have := HK2.out; have := HJ15.out; omega⟩, ⟨by (with_reducible repeat (first | apply Kd.R_alloc | apply Kd.R_drewN | apply Kd.R_drew)); exact Kd.R_mono HO120.out (fun _ hk => trivial)⟩, ⟨by repeat (first | (with_reducible first | exact HB.out | apply below_alloc | apply pw_below_drewN | apply below_drew1) | exact HB.out)⟩⟩
                                · rw [if_neg c31] at H
                                  exact absurd H (by simp)
                              · rw [if_neg c30] at H
                                have c30b0 : (t117 == 3) = false := beq_eq_false_iff_ne.mpr c30
                                have c30b1 : (t117 != 3) = true := bne_iff_ne.mpr c30
                                exact absurd ((Option.some.inj H).trans hr_.out) (by simp)
                            · rw [if_neg c28] at H
                              exact absurd H (by simp)
                          · rw [if_neg c27] at H
                            exact absurd H (by simp)
                · rw [if_neg c13] at H
                  exact absurd H (by simp)
              · rw [if_neg c12] at H
                have c12b0 : decide (x6_2 < (l0.length : Int)) = false := decide_eq_false c12
                clear c12
                replace H := Option.bind_eq_some_iff.mp H
                obtain ⟨⟨t121, t122, t123⟩, A350, H⟩ := H
                replace H : (if false = true then (some false) else (tiklaw2_WireBack.l1 k2 l0 0 t121 t122 t123)) = some r := H
                have A35 := Aside0.mk A350
                clear A350
                have H1 : (tiklaw2_WireBack.l1 k2 l0 0 t121 t122 t123) = some r := by rw [if_neg (show ¬ (false = true) by decide)] at H; exact H
                clear H
                have H := H1
                clear H1
                have H' := Aside0.mk H
                clear H
                obtain ⟨Ao36, co36, eo36⟩ := Kd.R_slice HO_5.out
                subst eo36
                go_wp2_with (first | ((with_reducible refine gate_callee (f := 20) rfl ?_); refine goesL_ (some 91) rfl rfl Try.func20 (by kernel_rfl) rfl #[.slice Ao36 x5_2.length co36] rfl (by (try simp only [List.map_toArray, List.map_cons, List.map_nil]); first | done | rfl | (simp only [List.length_drop, List.length_take]; rfl)) ?_; (with_reducible refine (wire_NewReader.calls _ _ x5_2 t121 t122 t123 w _ ?side1 ?side2 ?side3 A35.out).mono ?_); (case side1 => repeat (first | (with_reducible first | exact HB.out | apply below_alloc | apply pw_below_drewN | apply below_drew1) | exact HB.out)); (case side2 => repeat (first | exact (Kd.R_reads' HO_5.out).2.2 | (with_reducible refine Kd.C_alloc ?_ _) | (with_reducible refine Kd.C_drewN ?_ _) | (with_reducible refine Kd.C_drew ?_))); (case side3 => exact (Kd.R_reads' HO_5.out).2.1); rintro e w37 ⟨g124, rfl, hi, hb, hb2⟩; refine ⟨_, rfl, ?_⟩; have n0_ := Aside0.mk (Kd.R_below (by (with_reducible repeat (first | apply Kd.R_alloc | apply Kd.R_drewN | apply Kd.R_drew)); exact HO_5.out) hb2); have n1_ := Aside0.mk (hb); have n2_ := Aside0.mk (hi); clear HO_5; clear HB; have HO_5 := n0_; have HB := n1_; have HI124 := n2_; clear n0_ n1_ n2_; (try clear hb); (try clear hb2); (try clear hk); (try clear hi)))
                go_loopg [15] k2 (fun kq v15 w' => ∃ (x15_3 : Int) (x125001_3 : Int) (x125002_3 : Int), v15 = .int .i64 x15_3 ∧ Aside0 (tiklaw2_WireBack.l1 kq l0 x15_3 t121 x125001_3 x125002_3 = some r) ∧ Aside0 (kq ≤ k2) ∧ Aside0 (IsS57 w w' g124 t121 x125001_3 x125002_3) ∧ Aside0 (Below w.heap.size w w'))
                case atStart => exact ⟨(0), (t122), (t123), (by first | rfl | (simp; done) | (simp [*]; done)), H', ⟨Nat.le_refl _⟩, ⟨by repeat (first | (with_reducible first | exact HI124.out | apply IsS57.alloc | apply IsS57.drewN | apply IsS57.drew | apply IsS57.set_1 | apply IsS57.set_2) | exact HI124.out)⟩, ⟨by repeat (first | (with_reducible first | exact HB.out | apply below_alloc | apply pw_below_drewN | apply below_drew1 | refine below_set ?_ (IsS57.ge HI124.out)) | exact HB.out)⟩⟩
                case round =>
                  clear H'
                  try clear c1
                  try clear p1
                  try clear q1
                  try clear hx1
                  try clear c2
                  try clear p2
                  try clear c3
                  try clear q3
                  try clear c4
                  try clear c6
                  try clear p6
                  try clear c7
                  try clear c7b0
                  try clear c7b1
                  try clear c8
                  try clear c8b0
                  try clear c8b1
                  try clear c9
                  try clear c10
                  try clear p10
                  try clear q10
                  try clear hx10
                  try clear p11
                  try clear q11
                  try clear hx11
                  try clear c12
                  try clear c12b0
                  try clear c13
                  try clear c13b0
                  try clear c20
                  try clear c20b0
                  try clear c20b1
                  try clear c21
                  try clear c21b0
                  try clear c21b1
                  try clear c22
                  try clear c22b0
                  try clear c22b1
                  try clear c23
                  try clear c23b0
                  try clear c23b1
                  try clear c24
                  try clear c25
                  try clear c25b0
                  try clear c25b1
                  try clear c25b2
                  try clear c27
                  try clear c27b0
                  try clear c27b1
                  try clear c28
                  try clear c28b0
                  try clear c28b1
                  try clear c30
                  try clear c30b0
                  try clear c30b1
                  try clear c31
                  try clear q32
                  try clear hx103_0
                  try clear hx110_0
                  try clear p1
                  try clear p10
                  try clear p103
                  try clear p11
                  try clear p110
                  try clear p2
                  try clear q1
                  try clear q10
                  try clear q103
                  try clear q11
                  try clear q110
                  try clear q32
                  obtain ⟨x15_3, x125001_3, x125002_3, rfl, HA, HK3, HI124, HB⟩ := hrel
                  cases gk with
                  | zero => exact absurd HA.out (by simp [tiklaw2_WireBack.l1])
                  | succ k3 =>
                    have H := HA.out
                    clear HA
                    simp only [tiklaw2_WireBack.l1] at H
                    by_cases c38 : x15_3 < (l0.length : Int)
                    · rw [if_pos c38] at H
                      have c38b0 : decide (x15_3 < (l0.length : Int)) = true := decide_eq_true c38
                      clear c38
                      replace H := Option.bind_eq_some_iff.mp H
                      obtain ⟨⟨t125, t126, t127⟩, A390, H⟩ := H
                      replace H : (if 0 ≤ x15_3 then (if t125 = (rd l0 x15_3) then (tiklaw2_WireBack.l1 k3 l0 (wrap64 (x15_3 + 1)) t121 t126 t127) else (some false)) else (none)) = some r := H
                      have A39 := Aside0.mk A390
                      clear A390
                      by_cases c40 : 0 ≤ x15_3
                      · rw [if_pos c40] at H
                        have c40b0 : decide (0 ≤ x15_3) = true := decide_eq_true c40
                        clear c40
                        by_cases c41 : t125 = (rd l0 x15_3)
                        · rw [if_pos c41] at H
                          have c41b0 : (t125 == (rd l0 x15_3)) = true := beq_iff_eq.mpr c41
                          have c41b1 : (t125 != (rd l0 x15_3)) = false := bne_eq_false_iff_eq.mpr c41
                          clear c41
                          have H' := Aside0.mk H
                          clear H
                          try go_wp2
                          have n0_ := Aside0.mk (IsS57.drew HI124.out)
                          have n1_ := Aside0.mk (below_drew1 HB.out)
                          clear HI124
                          clear HB
                          have HI124 := n0_
                          have HB := n1_
                          clear n0_ n1_
                          have p128 : 0 ≤ (x15_3 : Int) := of_decide_eq_true (by first | (with_reducible assumption) | assumption)
                          have q128 : x15_3 < (l0.length : Int) := of_decide_eq_true (by first | (with_reducible assumption) | assumption)
                          obtain ⟨ad128, e128, hx128_0⟩ := Kd.at_int HR0.out x15_3 p128 q128
                          have hw128_0 := hx128_0
                          cases e128
                          replace hx128_0 := (HB.out.cell (World.block_lt_of_cell? w _ hx128_0)).trans hx128_0
                          replace p128 := eq_true p128
                          replace q128 := eq_true q128
                          refine start_ (n := 7) (S := fun w' => w'.cell? (ad128.add (x15_3).toNat) = some (.int .u64 (rd l0 x15_3))) (ds := []) #[false, false, false, false, false, false, false] (by kernel_rfl) rfl rfl (((HB.out.cell (World.block_lt_of_cell? w _ hw128_0)).trans hw128_0)) (fun hHeld => ?_)
                          generalize wr.drew = w42 at HI124 HB hx128_0 hHeld ⊢
                          refine pure_ (i := 0) (N := some 100) (v := ?_) (a' := ?_) #[true, false, false, false, false, false, false] rfl rfl (by kernel_rfl) (fun _ _ _ h => h) (Or.inl ⟨by rfl, ?_⟩) ?_ ?_
                          rotate_left
                          · intro w'
                            go_simp
                            with_reducible rfl
                          rotate_left
                          · simp only [Act.put, List.setIfInBounds_toArray, List.set_cons_zero, List.set_cons_succ, i64_w, i32_w]
                            rfl
                          refine pure_ (i := 2) (N := some 102) (v := ?_) (a' := ?_) #[true, false, true, false, false, false, false] rfl rfl (by kernel_rfl) (fun _ _ _ h => h) (Or.inl ⟨by rfl, ?_⟩) ?_ ?_
                          rotate_left
                          · intro w'
                            go_simp
                            with_reducible rfl
                          rotate_left
                          · simp only [Act.put, List.setIfInBounds_toArray, List.set_cons_zero, List.set_cons_succ, i64_w, i32_w]
                            rfl
                          refine pure_ (i := 3) (N := some 103) (v := ?_) (a' := ?_) #[true, false, true, true, false, false, false] rfl rfl (by kernel_rfl) (fun _ _ _ h => h) (Or.inl ⟨by rfl, ?_⟩) ?_ ?_
                          rotate_left
                          · intro w'
                            go_simp
                            with_reducible rfl
                          rotate_left
                          · simp only [Act.put, List.setIfInBounds_toArray, List.set_cons_zero, List.set_cons_succ, i64_w, i32_w]
                            rfl
                          refine pure_ (i := 4) (N := some 104) (v := ?_) (a' := ?_) #[true, false, true, true, true, false, false] rfl rfl (by kernel_rfl) (fun _ _ _ h => h) (Or.inl ⟨by rfl, ?_⟩) ?_ ?_
                          rotate_left
                          · intro w'
                            go_simp
                            with_reducible rfl
                          rotate_left
                          · simp only [Act.put, List.setIfInBounds_toArray, List.set_cons_zero, List.set_cons_succ, i64_w, i32_w]
                            rfl
                          refine take_ (i := 5) (N := some 105) (v := ?_) (a' := ?_) #[true, false, true, true, true, true, false] rfl rfl (by kernel_rfl) (fun _ _ _ h => h) (Or.inl ⟨by rfl, ?_⟩) hHeld ?_ ?_
                          rotate_left
                          · intro w' s0
                            go_simp
                            with_reducible rfl
                          rotate_left
                          · simp only [Act.put, List.setIfInBounds_toArray, List.set_cons_zero, List.set_cons_succ, i64_w, i32_w]
                            rfl
                          refine one_ (i := 1) (N := some 101) #[true, true, true, true, true, true, false] rfl rfl (by kernel_rfl) (by decide) (fun K hK => ?_)
                          refine goes_ Try.func21 (by kernel_rfl) rfl #[.pointer (some ⟨g124, 0, none⟩), .int .u64 18446744073709551615] (by rfl) rfl rfl (by (try simp only [List.map_toArray, List.map_cons, List.map_nil]); first | done | rfl | (simp only [List.length_drop, List.length_take]; rfl)) ?_
                          with_reducible refine (wire_Reader_Num.calls g124 t121 x125001_3 x125002_3 18446744073709551615 t125 t126 t127 w _ ?side1 ?side2 A39.out).mono ?_
                          (case side1 => repeat (first | (with_reducible first | exact HI124.out | apply IsS57.alloc | apply IsS57.drewN | apply IsS57.drew | apply IsS57.set_1 | apply IsS57.set_2) | exact HI124.out))
                          (case side2 => repeat (first | (with_reducible first | exact HB.out | apply below_alloc | apply pw_below_drewN | apply below_drew1 | refine below_set ?_ (IsS57.ge HI124.out)) | exact HB.out))
                          rintro e w43 ⟨rfl, hi, hb, hk⟩
                          refine ⟨_, rfl, ?_⟩
                          have n0_ := Aside0.mk (hb)
                          have n1_ := Aside0.mk (hi)
                          clear HB
                          clear HI124
                          have HB := n0_
                          have HI124 := n1_
                          clear n0_ n1_
                          (try clear hb)
                          (try clear hb2)
                          (try clear hk)
                          (try clear hi)
                          refine hK.out _ _ (((HB.out.cell (World.block_lt_of_cell? w _ hw128_0)).trans hw128_0)) (fun hHeld => ?_)
                          clear hK K
                          refine norm_ (a' := ?_) ?_ ?_
                          rotate_left
                          · show Act.put _ (some 101) _ = _
                            simp only [Act.put, List.setIfInBounds_toArray, List.set_cons_zero, List.set_cons_succ, i64_w, i32_w]
                            rfl
                          refine pure_ (i := 6) (N := some 106) (v := ?_) (a' := ?_) #[true, true, true, true, true, true, true] rfl rfl (by kernel_rfl) (fun _ _ _ h => h) (Or.inl ⟨by rfl, ?_⟩) ?_ ?_
                          rotate_left
                          · intro w'
                            go_simp
                            with_reducible rfl
                          rotate_left
                          · simp only [Act.put, List.setIfInBounds_toArray, List.set_cons_zero, List.set_cons_succ, i64_w, i32_w]
                            rfl
                          refine done_ (by kernel_rfl) ?_
                          try go_wp2
                          go_roundg k3
                          case measure => have := HJ4.out; have := HK2.out; have := HK3.out; omega
                          case rel => exact ⟨(wrap64 (x15_3 + 1)), (t126), (t127), (by first | rfl | (simp; done) | (simp [*]; done)), H', ⟨by have := HJ4.out; have := HK2.out; have := HK3.out; omega⟩, ⟨by repeat (first | (with_reducible first | exact HI124.out | apply IsS57.alloc | apply IsS57.drewN | apply IsS57.drew | apply IsS57.set_1 | apply IsS57.set_2) | exact HI124.out)⟩, ⟨by repeat (first | (with_reducible first | exact HB.out | apply below_alloc | apply pw_below_drewN | apply below_drew1 | refine below_set ?_ (IsS57.ge HI124.out)) | exact HB.out)⟩⟩
                        · rw [if_neg c41] at H
                          have c41b0 : (t125 == (rd l0 x15_3)) = false := beq_eq_false_iff_ne.mpr c41
                          have c41b1 : (t125 != (rd l0 x15_3)) = true := bne_iff_ne.mpr c41
                          exact absurd ((Option.some.inj H).trans hr_.out) (by simp)
                      · rw [if_neg c40] at H
                        exact absurd H (by simp)
                    · rw [if_neg c38] at H
                      have c38b0 : decide (x15_3 < (l0.length : Int)) = false := decide_eq_false c38
                      clear c38
                      replace H := Option.bind_eq_some_iff.mp H
                      obtain ⟨t129, A440, H⟩ := H
                      replace H : (if t129 = true then ((wire_Reader_End.f t121 x125001_3 x125002_3).bind fun bt130 => (if bt130.1 = 0 then ((wire_Reader_Num.f t121 bt130.2.1 bt130.2.2 5).bind fun bt133 => (if bt133.1 = 0 then ((wire_Reader_Err.f t121 bt133.2.1 bt133.2.2).bind fun bt136 => (some (bt136.1 == 3))) else (some false))) else (some false))) else (some false)) = some r := H
                      have A44 := Aside0.mk A440
                      clear A440
                      by_cases c45 : t129 = true
                      · subst c45
                        have H1 : ((wire_Reader_End.f t121 x125001_3 x125002_3).bind fun bt130 => (if bt130.1 = 0 then ((wire_Reader_Num.f t121 bt130.2.1 bt130.2.2 5).bind fun bt133 => (if bt133.1 = 0 then ((wire_Reader_Err.f t121 bt133.2.1 bt133.2.2).bind fun bt136 => (some (bt136.1 == 3))) else (some false))) else (some false))) = some r := by rw [if_pos rfl] at H; exact H
                        clear H
                        have H := H1
                        clear H1
                        replace H := Option.bind_eq_some_iff.mp H
                        obtain ⟨⟨t130, t131, t132⟩, A460, H⟩ := H
                        replace H : (if t130 = 0 then ((wire_Reader_Num.f t121 t131 t132 5).bind fun bt133 => (if bt133.1 = 0 then ((wire_Reader_Err.f t121 bt133.2.1 bt133.2.2).bind fun bt136 => (some (bt136.1 == 3))) else (some false))) else (some false)) = some r := H
                        have A46 := Aside0.mk A460
                        clear A460
                        by_cases c47 : t130 = 0
                        · rw [if_pos c47] at H
                          have c47b0 : (t130 == 0) = true := beq_iff_eq.mpr c47
                          have c47b1 : (t130 != 0) = false := bne_eq_false_iff_eq.mpr c47
                          clear c47
                          replace H := Option.bind_eq_some_iff.mp H
                          obtain ⟨⟨t133, t134, t135⟩, A480, H⟩ := H
                          replace H : (if t133 = 0 then ((wire_Reader_Err.f t121 t134 t135).bind fun bt136 => (some (bt136.1 == 3))) else (some false)) = some r := H
                          have A48 := Aside0.mk A480
                          clear A480
                          by_cases c49 : t133 = 0
                          · rw [if_pos c49] at H
                            have c49b0 : (t133 == 0) = true := beq_iff_eq.mpr c49
                            have c49b1 : (t133 != 0) = false := bne_eq_false_iff_eq.mpr c49
                            clear c49
                            replace H := Option.bind_eq_some_iff.mp H
                            obtain ⟨⟨t136, t137, t138⟩, A500, H⟩ := H
                            replace H : (some (t136 == 3)) = some r := H
                            have A50 := Aside0.mk A500
                            clear A500
                            obtain rfl := Option.some.inj H
                            go_wp2_with (first | ((with_reducible refine gate_callee (f := 9) rfl ?_); refine goesL_ (some 107) rfl rfl Try.func9 (by kernel_rfl) rfl #[] rfl (by (try simp only [List.map_toArray, List.map_cons, List.map_nil]); first | done | rfl | (simp only [List.length_drop, List.length_take]; rfl)) ?_; (with_reducible refine (tiklaw2_first.calls  true _ A44.out).mono ?_); rintro e w51 ⟨rfl, hb⟩; refine ⟨_, rfl, ?_⟩; have n0_ := Aside0.mk (IsS57.below (by repeat (first | (with_reducible first | exact HI124.out | apply IsS57.alloc | apply IsS57.drewN | apply IsS57.drew | apply IsS57.set_1 | apply IsS57.set_2) | exact HI124.out)) hb); have n1_ := Aside0.mk (below_step (by repeat (first | (with_reducible first | exact HB.out | apply below_alloc | apply pw_below_drewN | apply below_drew1 | refine below_set ?_ (IsS57.ge HI124.out)) | exact HB.out)) hb); clear HI124; clear HB; have HI124 := n0_; have HB := n1_; clear n0_ n1_; (try clear hb); (try clear hb2); (try clear hk); (try clear hi)) | (go_at_call 22; (with_reducible refine (wire_Reader_End.calls g124 t121 x125001_3 x125002_3 t130 t131 t132 w _ ?side1 ?side2 A46.out).mono ?_); (case side1 => repeat (first | (with_reducible first | exact HI124.out | apply IsS57.alloc | apply IsS57.drewN | apply IsS57.drew | apply IsS57.set_1 | apply IsS57.set_2) | exact HI124.out)); (case side2 => repeat (first | (with_reducible first | exact HB.out | apply below_alloc | apply pw_below_drewN | apply below_drew1 | refine below_set ?_ (IsS57.ge HI124.out)) | exact HB.out)); rintro e w52 ⟨rfl, hi, hb, hk⟩; have n0_ := Aside0.mk (hb); have n1_ := Aside0.mk (hi); clear HB; clear HI124; have HB := n0_; have HI124 := n1_; clear n0_ n1_; (try clear hb); (try clear hb2); (try clear hk); (try clear hi)) | (go_at_call 21; (with_reducible refine (wire_Reader_Num.calls g124 t121 t131 t132 5 t133 t134 t135 w _ ?side1 ?side2 A48.out).mono ?_); (case side1 => repeat (first | (with_reducible first | exact HI124.out | apply IsS57.alloc | apply IsS57.drewN | apply IsS57.drew | apply IsS57.set_1 | apply IsS57.set_2) | exact HI124.out)); (case side2 => repeat (first | (with_reducible first | exact HB.out | apply below_alloc | apply pw_below_drewN | apply below_drew1 | refine below_set ?_ (IsS57.ge HI124.out)) | exact HB.out)); rintro e w53 ⟨rfl, hi, hb, hk⟩; have n0_ := Aside0.mk (hb); have n1_ := Aside0.mk (hi); clear HB; clear HI124; have HB := n0_; have HI124 := n1_; clear n0_ n1_; (try clear hb); (try clear hb2); (try clear hk); (try clear hi)) | (go_at_call 23; (with_reducible refine (wire_Reader_Err.calls g124 t121 t134 t135 t136 t137 t138 w _ ?side1 ?side2 A50.out).mono ?_); (case side1 => repeat (first | (with_reducible first | exact HI124.out | apply IsS57.alloc | apply IsS57.drewN | apply IsS57.drew | apply IsS57.set_1 | apply IsS57.set_2) | exact HI124.out)); (case side2 => repeat (first | (with_reducible first | exact HB.out | apply below_alloc | apply pw_below_drewN | apply below_drew1 | refine below_set ?_ (IsS57.ge HI124.out)) | exact HB.out)); rintro e w54 ⟨rfl, hi, hb, hk⟩; have n0_ := Aside0.mk (hb); have n1_ := Aside0.mk (hi); clear HB; clear HI124; have HB := n0_; have HI124 := n1_; clear n0_ n1_; (try clear hb); (try clear hb2); (try clear hk); (try clear hi)))
                            go_ret
                            exact ⟨by first | rfl | (simp [errW_none, errW_some] <;> rfl) | (simp [*, errW_none, errW_some] <;> rfl), by repeat (first | (with_reducible first | exact HB.out | apply below_alloc | apply pw_below_drewN | apply below_drew1 | refine below_set ?_ (IsS57.ge HI124.out)) | exact HB.out)⟩
                          · rw [if_neg c49] at H
                            have c49b0 : (t133 == 0) = false := beq_eq_false_iff_ne.mpr c49
                            have c49b1 : (t133 != 0) = true := bne_iff_ne.mpr c49
                            exact absurd ((Option.some.inj H).trans hr_.out) (by simp)
                        · rw [if_neg c47] at H
                          have c47b0 : (t130 == 0) = false := beq_eq_false_iff_ne.mpr c47
                          have c47b1 : (t130 != 0) = true := bne_iff_ne.mpr c47
                          exact absurd ((Option.some.inj H).trans hr_.out) (by simp)
                      · replace c45 := Bool.eq_false_iff.mpr c45
                        subst c45
                        have H1 : (some false) = some r := by rw [if_neg (show ¬ (false = true) by decide)] at H; exact H
                        clear H
                        have H := H1
                        clear H1
                        exact absurd ((Option.some.inj H).trans hr_.out) (by simp)
  · replace c4 := Bool.eq_false_iff.mpr c4
    subst c4
    have H1 : (some false) = some r := by rw [if_neg (show ¬ (false = true) by decide)] at H; exact H
    clear H
    have H := H1
    clear H1
    exact absurd ((Option.some.inj H).trans hr_.out) (by simp)

end Go.Proofs.Ytabljieejnhefaa.PS
