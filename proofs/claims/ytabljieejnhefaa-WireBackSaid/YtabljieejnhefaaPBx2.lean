-- written for this claim by mp.py (this repo), with the kit's print; checked by the kernel alone
import Derived.Test.YtabljieejnhefaaPBx0
namespace Go.Proofs.Ytabljieejnhefaa.PB
open Go.RowKit Go.Proofs.YtabljieejnhefaaW.PrintWords Go.Proofs.YtabljieejnhefaaW.PrintLast Go.Proofs.YtabljieejnhefaaW.PrintMore
attribute [local go_sem] max2_int min2_int max_two min_two max_three min_three max_four min_four   -- for this text's walks alone
open Go.Proofs.Ytabljieejnhefaa.Hand
open Go.Proofs.Ytabljieejnhefaa.PA
set_option linter.unusedVariables false
set_option linter.unusedSimpArgs false

/-! ### tiklaw2_WireSums: function 4 -/
mutual
def tiklaw2_WireSums.j0 : Nat → List Int → List Int → List Int → Int → Int → Bool → Option (Bool)
  | 0, _, _, _, _, _, _ => none
  | k + 1, x0, x1, x2, x3, x4, x45 => if x45 = true then ((tiklaw2_first.f).bind fun t127 => (some t127)) else (if 0 ≤ (x0.length : Int) then (if ((x0.length : Int) : Int).toNat ≤ 281474976710656 then (tiklaw2_WireSums.l0 k x0 x1 x2 x3 x4 (List.replicate ((x0.length : Int) : Int).toNat 0) 0) else (none)) else (none))
def tiklaw2_WireSums.l0 : Nat → List Int → List Int → List Int → Int → Int → List Int → Int → Option (Bool)
  | 0, _, _, _, _, _, _, _ => none
  | k + 1, x0, x1, x2, x3, x4, x11, x12 => if x12 < (x0.length : Int) then (if 0 ≤ x12 then (if x12 < (x1.length : Int) then (if x12 < (x2.length : Int) then (if x12 < (x11.length : Int) then (tiklaw2_WireSums.l0 k x0 x1 x2 x3 x4 (x11.set (x12 : Int).toNat (Go.bits .xor .u8 (Go.bits .xor .u8 (rd x0 x12) (rd x1 x12)) (rd x2 x12))) (wrap64 (x12 + 1))) else (none)) else (none)) else (none)) else (none)) else ((tikref_CopyBytes.f x0).bind fun t135 => (if (t135.length : Int) = 0 then (none) else (if 0 ≤ (Int.tmod x3 (t135.length : Int)) then (if (Int.tmod x3 (t135.length : Int)) < (t135.length : Int) then ((tiklaw2_first.f).bind fun t140 => (if t140 = true then ((wire_Crc.f k x11).bind fun t141 => ((wire_Crc.f k x0).bind fun t142 => ((wire_Crc.f k x1).bind fun t143 => ((wire_Crc.f k x2).bind fun t144 => (if t141 = (Go.bits .xor .u32 (Go.bits .xor .u32 t142 t143) t144) then ((wire_Crc.f k (t135.set ((Int.tmod x3 (t135.length : Int)) : Int).toNat (Go.bits .xor .u8 (rd t135 (Int.tmod x3 (t135.length : Int))) x4))).bind fun t145 => ((wire_Crc.f k x0).bind fun t146 => (some (t145 != t146)))) else (some false)))))) else (some false))) else (none)) else (none))))
end
def tiklaw2_WireSums.f (k : Nat) (l0 : List Int) (l1 : List Int) (l2 : List Int) (a3 : Int) (a4 : Int) : Option (Bool) := (tiklaw2_first.f).bind fun t126 => (if t126 = true then (if (l0.length : Int) < 1 then (tiklaw2_WireSums.j0 k l0 l1 l2 a3 a4 true) else (if (l0.length : Int) > 2000 then (tiklaw2_WireSums.j0 k l0 l1 l2 a3 a4 true) else (if (l1.length : Int) = (l0.length : Int) then (if (l2.length : Int) = (l0.length : Int) then (if a3 < 0 then (tiklaw2_WireSums.j0 k l0 l1 l2 a3 a4 true) else (tiklaw2_WireSums.j0 k l0 l1 l2 a3 a4 (a4 == 0))) else (tiklaw2_WireSums.j0 k l0 l1 l2 a3 a4 true)) else (tiklaw2_WireSums.j0 k l0 l1 l2 a3 a4 true)))) else (some false))
theorem tiklaw2_WireSums.mono_l : ∀ k, (∀ y0 y1 y2 y3 y4 y5, LeO (tiklaw2_WireSums.j0 k y0 y1 y2 y3 y4 y5) (tiklaw2_WireSums.j0 (k + 1) y0 y1 y2 y3 y4 y5)) ∧ (∀ y0 y1 y2 y3 y4 y5 y6, LeO (tiklaw2_WireSums.l0 k y0 y1 y2 y3 y4 y5 y6) (tiklaw2_WireSums.l0 (k + 1) y0 y1 y2 y3 y4 y5 y6))
  | 0 => ⟨fun _ _ _ _ _ _ r h => by simp [tiklaw2_WireSums.j0] at h, fun _ _ _ _ _ _ _ r h => by simp [tiklaw2_WireSums.l0] at h⟩
  | k + 1 => by
    obtain ⟨ih0, ih1⟩ := tiklaw2_WireSums.mono_l k
    refine ⟨?_, ?_⟩
    · intro y0 y1 y2 y3 y4 y5
      unfold tiklaw2_WireSums.j0
      repeat' first
      | (with_reducible exact ih0 _ _ _ _ _ _)
      | (with_reducible exact ih1 _ _ _ _ _ _ _)
      | (with_reducible exact wire_Crc.mono _ _)
      | (with_reducible exact LeO.refl _)
      | (with_reducible exact LeO.none _)
      | (with_reducible refine LeO.ite ?_ ?_)
      | (with_reducible refine LeO.bind ?_ (fun _ => ?_))
      | exact ih0 _ _ _ _ _ _
      | exact ih1 _ _ _ _ _ _ _
      | exact wire_Crc.mono _ _
      | exact LeO.none _
      | refine LeO.ite ?_ ?_
      | refine LeO.bind ?_ (fun _ => ?_)
    · intro y0 y1 y2 y3 y4 y5 y6
      unfold tiklaw2_WireSums.l0
      repeat' first
      | (with_reducible exact ih0 _ _ _ _ _ _)
      | (with_reducible exact ih1 _ _ _ _ _ _ _)
      | (with_reducible exact wire_Crc.mono _ _)
      | (with_reducible exact LeO.refl _)
      | (with_reducible exact LeO.none _)
      | (with_reducible refine LeO.ite ?_ ?_)
      | (with_reducible refine LeO.bind ?_ (fun _ => ?_))
      | exact ih0 _ _ _ _ _ _
      | exact ih1 _ _ _ _ _ _ _
      | exact wire_Crc.mono _ _
      | exact LeO.none _
      | refine LeO.ite ?_ ?_
      | refine LeO.bind ?_ (fun _ => ?_)
theorem tiklaw2_WireSums.mono : ∀ a0 a1 a2 a3 a4 k, LeO (tiklaw2_WireSums.f k a0 a1 a2 a3 a4) (tiklaw2_WireSums.f (k + 1) a0 a1 a2 a3 a4) := by
  intro a0 a1 a2 a3 a4 k
  obtain ⟨ih0, ih1⟩ := tiklaw2_WireSums.mono_l k
  unfold tiklaw2_WireSums.f
  repeat' first
      | (with_reducible exact ih0 _ _ _ _ _ _)
      | (with_reducible exact ih1 _ _ _ _ _ _ _)
      | (with_reducible exact wire_Crc.mono _ _)
      | (with_reducible exact LeO.refl _)
      | (with_reducible exact LeO.none _)
      | (with_reducible refine LeO.ite ?_ ?_)
      | (with_reducible refine LeO.bind ?_ (fun _ => ?_))
      | exact ih0 _ _ _ _ _ _
      | exact ih1 _ _ _ _ _ _ _
      | exact wire_Crc.mono _ _
      | exact LeO.none _
      | refine LeO.ite ?_ ?_
      | refine LeO.bind ?_ (fun _ => ?_)
def tiklaw2_WireSums.T9 : Bool × List (List Nat × List Nat) := (true, [([], []), ([], []), ([], []), ([], []), ([2, 3], [2, 3]), ([4], [4]), ([], []), ([], []), ([6, 7], [6, 7]), ([8], [8]), ([5, 9], [5, 9]), ([], []), ([], []), ([11, 12], [11, 12]), ([13], [13]), ([10, 14], [10, 14]), ([0, 1, 0, 1, 2, 3, 4, 5, 6, 7, 8, 9, 10, 11, 12, 13, 14, 15], [0, 1]), ([16, 15, 0, 1, 2, 3, 4, 5, 6, 7, 8, 9, 10, 11, 12, 13, 14, 15], [15, 16])])
def tiklaw2_WireSums.B9 : List Nat := [0, 0, 0, 0, 12, 28, 0, 0, 192, 448, 1020, 0, 0, 6144, 14336, 32764, 65535, 131071]
theorem tiklaw2_WireSums.tab9 : rtab .any (opsOf Try.f4 9) = tiklaw2_WireSums.T9 := by kernel_rfl
theorem tiklaw2_WireSums.bits9 : waitsOk tiklaw2_WireSums.T9.2 tiklaw2_WireSums.B9 = true := by kernel_rfl
def tiklaw2_WireSums.T11 : Bool × List (List Nat × List Nat) := (true, [([], []), ([], []), ([], []), ([2], [2]), ([1, 3], [1, 3]), ([], []), ([], []), ([], []), ([7], [7]), ([6, 8], [6, 8]), ([5, 9], [5, 9]), ([10], [10]), ([], []), ([11, 12], [11, 12]), ([0, 4, 0, 1, 2, 3, 4, 5, 6, 7, 8, 9, 10, 11, 12, 13], [0, 4]), ([14, 13, 0, 1, 2, 3, 4, 5, 6, 7, 8, 9, 10, 11, 12, 13], [13, 14])])
def tiklaw2_WireSums.B11 : List Nat := [0, 0, 0, 4, 14, 0, 0, 0, 128, 448, 992, 2016, 0, 8160, 16383, 32767]
theorem tiklaw2_WireSums.tab11 : rtab .any (opsOf Try.f4 11) = tiklaw2_WireSums.T11 := by kernel_rfl
theorem tiklaw2_WireSums.bits11 : waitsOk tiklaw2_WireSums.T11.2 tiklaw2_WireSums.B11 = true := by kernel_rfl
set_option maxHeartbeats 8000000 in
set_option maxRecDepth 100000 in
theorem tiklaw2_WireSums.calls (k : Nat) (A0 : Option Addr) (c0 : Nat) (l0 : List Int) (A1 : Option Addr) (c1 : Nat) (l1 : List Int) (A2 : Option Addr) (c2 : Nat) (l2 : List Int) (a3 : Int) (a4 : Int) (r : Bool) (w : World) (hr0 : Kd.C (Kd.int .u8) w A0 l0.length l0) (hc0 : l0.length ≤ c0) (hr1 : Kd.C (Kd.int .u8) w A1 l1.length l1) (hc1 : l1.length ≤ c1) (hr2 : Kd.C (Kd.int .u8) w A2 l2.length l2) (hc2 : l2.length ≤ c2) (hr_ : Aside0 (r = true)) (h : tiklaw2_WireSums.f k l0 l1 l2 a3 a4 = some r) :
    Calls Try.prog 4 #[.slice A0 l0.length c0, .slice A1 l1.length c1, .slice A2 l2.length c2, .int .i64 a3, .int .u8 a4] w fun e w' => e = .returned (.bool r) ∧ Below w.heap.size w w' := by
  have HR0 := Aside0.mk hr0
  have HC0 := Aside0.mk hc0
  clear hr0 hc0
  have HR1 := Aside0.mk hr1
  have HC1 := Aside0.mk hc1
  clear hr1 hc1
  have HR2 := Aside0.mk hr2
  have HC2 := Aside0.mk hc2
  clear hr2 hc2
  have HB := Aside0.mk (Below.refl w.heap.size w)
  have H : ((tiklaw2_first.f).bind fun t126 => (if t126 = true then (if (l0.length : Int) < 1 then (tiklaw2_WireSums.j0 k l0 l1 l2 a3 a4 true) else (if (l0.length : Int) > 2000 then (tiklaw2_WireSums.j0 k l0 l1 l2 a3 a4 true) else (if (l1.length : Int) = (l0.length : Int) then (if (l2.length : Int) = (l0.length : Int) then (if a3 < 0 then (tiklaw2_WireSums.j0 k l0 l1 l2 a3 a4 true) else (tiklaw2_WireSums.j0 k l0 l1 l2 a3 a4 (a4 == 0))) else (tiklaw2_WireSums.j0 k l0 l1 l2 a3 a4 true)) else (tiklaw2_WireSums.j0 k l0 l1 l2 a3 a4 true)))) else (some false))) = some r := h
  clear h
  replace H := Option.bind_eq_some_iff.mp H
  obtain ⟨t126, A60, H⟩ := H
  replace H : (if t126 = true then (if (l0.length : Int) < 1 then (tiklaw2_WireSums.j0 k l0 l1 l2 a3 a4 true) else (if (l0.length : Int) > 2000 then (tiklaw2_WireSums.j0 k l0 l1 l2 a3 a4 true) else (if (l1.length : Int) = (l0.length : Int) then (if (l2.length : Int) = (l0.length : Int) then (if a3 < 0 then (tiklaw2_WireSums.j0 k l0 l1 l2 a3 a4 true) else (tiklaw2_WireSums.j0 k l0 l1 l2 a3 a4 (a4 == 0))) else (tiklaw2_WireSums.j0 k l0 l1 l2 a3 a4 true)) else (tiklaw2_WireSums.j0 k l0 l1 l2 a3 a4 true)))) else (some false)) = some r := H
  have A6 := Aside0.mk A60
  clear A60
  by_cases c7 : t126 = true
  · subst c7
    have H1 : (if (l0.length : Int) < 1 then (tiklaw2_WireSums.j0 k l0 l1 l2 a3 a4 true) else (if (l0.length : Int) > 2000 then (tiklaw2_WireSums.j0 k l0 l1 l2 a3 a4 true) else (if (l1.length : Int) = (l0.length : Int) then (if (l2.length : Int) = (l0.length : Int) then (if a3 < 0 then (tiklaw2_WireSums.j0 k l0 l1 l2 a3 a4 true) else (tiklaw2_WireSums.j0 k l0 l1 l2 a3 a4 (a4 == 0))) else (tiklaw2_WireSums.j0 k l0 l1 l2 a3 a4 true)) else (tiklaw2_WireSums.j0 k l0 l1 l2 a3 a4 true)))) = some r := by rw [if_pos rfl] at H; exact H
    clear H
    have H := H1
    clear H1
    have HC8 := Aside0.mk H
    clear H
    go_enter Try.func4, Try.ntmps4
    go_upto_region 3 with (first | ((with_reducible refine gate_callee (f := 9) rfl ?_); refine goesL_ (some 14) rfl rfl Try.func9 (by kernel_rfl) rfl #[] rfl (by (try simp only [List.map_toArray, List.map_cons, List.map_nil]); first | done | rfl | (simp only [List.length_drop, List.length_take]; rfl)) ?_; (with_reducible refine (tiklaw2_first.calls  true _ A6.out).mono ?_); rintro e w9 ⟨rfl, hb⟩; refine ⟨_, rfl, ?_⟩; have n0_ := Aside0.mk (below_step (by repeat (first | (with_reducible first | exact HB.out | apply below_alloc | apply pw_below_drewN | apply below_drew1) | exact HB.out)) hb); clear HB; have HB := n0_; clear n0_; (try clear hb); (try clear hb2); (try clear hk); (try clear hi)))
    (try simp only [Act.put, List.setIfInBounds_toArray, List.set_cons_zero, List.set_cons_succ])
    go_cut [45] (fun v45 wc => ∃ (kq : Nat) (x45_7 : Bool), v45 = .bool x45_7 ∧ Aside0 (tiklaw2_WireSums.j0 kq l0 l1 l2 a3 a4 x45_7 = some r) ∧ Aside0 (kq ≤ k) ∧ Aside0 (Below w.heap.size w wc))
    case first =>
      have H := HC8.out
      clear HC8
      by_cases c10 : (l0.length : Int) < 1
      · rw [if_pos c10] at H
        have c10b0 : decide ((l0.length : Int) < 1) = true := decide_eq_true c10
        have c10b1 : decide (l0.length < 1) = true := decide_eq_true (by omega)
        clear c10
        (first | rw [c10b0] | (simp only [i64_w, i32_w]; rw [c10b0]) | skip)
        have H' := Aside0.mk H
        clear H
        go_wp2
        go_meet
        case rel => exact ⟨_, (true), (by first | rfl | (simp; done) | (simp [*]; done)), H', ⟨by first | omega | exact Nat.le_refl _⟩, ⟨by repeat (first | (with_reducible first | exact HB.out | apply below_alloc | apply pw_below_drewN | apply below_drew1) | exact HB.out)⟩⟩
      · rw [if_neg c10] at H
        have c10b0 : decide ((l0.length : Int) < 1) = false := decide_eq_false c10
        have c10b1 : decide (l0.length < 1) = false := decide_eq_false (by omega)
        clear c10
        (first | rw [c10b0] | (simp only [i64_w, i32_w]; rw [c10b0]) | skip)
        by_cases c11 : (l0.length : Int) > 2000
        · rw [if_pos c11] at H
          have c11b0 : decide (2000 < (l0.length : Int)) = true := decide_eq_true c11
          have c11b1 : decide (2000 < l0.length) = true := decide_eq_true (by omega)
          clear c11
          have H' := Aside0.mk H
          clear H
          go_wp2
          go_meet
          case rel => exact ⟨_, (true), (by first | rfl | (simp; done) | (simp [*]; done)), H', ⟨by first | omega | exact Nat.le_refl _⟩, ⟨by repeat (first | (with_reducible first | exact HB.out | apply below_alloc | apply pw_below_drewN | apply below_drew1) | exact HB.out)⟩⟩
        · rw [if_neg c11] at H
          have c11b0 : decide (2000 < (l0.length : Int)) = false := decide_eq_false c11
          have c11b1 : decide (2000 < l0.length) = false := decide_eq_false (by omega)
          clear c11
          by_cases c12 : (l1.length : Int) = (l0.length : Int)
          · rw [if_pos c12] at H
            have c12b0 : ((l1.length : Int) == (l0.length : Int)) = true := beq_iff_eq.mpr c12
            have c12b1 : ((l1.length : Int) != (l0.length : Int)) = false := bne_eq_false_iff_eq.mpr c12
            have c12b2 : (l1.length == l0.length) = true := by first | simpa using c12 | (simp at c12 ⊢; omega)
            clear c12
            by_cases c13 : (l2.length : Int) = (l0.length : Int)
            · rw [if_pos c13] at H
              have c13b0 : ((l2.length : Int) == (l0.length : Int)) = true := beq_iff_eq.mpr c13
              have c13b1 : ((l2.length : Int) != (l0.length : Int)) = false := bne_eq_false_iff_eq.mpr c13
              have c13b2 : (l2.length == l0.length) = true := by first | simpa using c13 | (simp at c13 ⊢; omega)
              clear c13
              by_cases c14 : a3 < 0
              · rw [if_pos c14] at H
                have c14b0 : decide (a3 < 0) = true := decide_eq_true c14
                clear c14
                have H' := Aside0.mk H
                clear H
                go_wp2
                go_meet
                case rel => exact ⟨_, (true), (by first | rfl | (simp; done) | (simp [*]; done)), H', ⟨by first | omega | exact Nat.le_refl _⟩, ⟨by repeat (first | (with_reducible first | exact HB.out | apply below_alloc | apply pw_below_drewN | apply below_drew1) | exact HB.out)⟩⟩
              · rw [if_neg c14] at H
                have c14b0 : decide (a3 < 0) = false := decide_eq_false c14
                clear c14
                have H' := Aside0.mk H
                clear H
                go_wp2
                go_meet
                case rel => exact ⟨_, ((a4 == 0)), (by first | rfl | (simp; done) | (simp [*]; done)), H', ⟨by first | omega | exact Nat.le_refl _⟩, ⟨by repeat (first | (with_reducible first | exact HB.out | apply below_alloc | apply pw_below_drewN | apply below_drew1) | exact HB.out)⟩⟩
            · rw [if_neg c13] at H
              have c13b0 : ((l2.length : Int) == (l0.length : Int)) = false := beq_eq_false_iff_ne.mpr c13
              have c13b1 : ((l2.length : Int) != (l0.length : Int)) = true := bne_iff_ne.mpr c13
              have c13b2 : (l2.length == l0.length) = false := by first | simpa using c13 | (simp at c13 ⊢; omega)
              have H' := Aside0.mk H
              clear H
              go_wp2
              go_meet
              case rel => exact ⟨_, (true), (by first | rfl | (simp; done) | (simp [*]; done)), H', ⟨by first | omega | exact Nat.le_refl _⟩, ⟨by repeat (first | (with_reducible first | exact HB.out | apply below_alloc | apply pw_below_drewN | apply below_drew1) | exact HB.out)⟩⟩
          · rw [if_neg c12] at H
            have c12b0 : ((l1.length : Int) == (l0.length : Int)) = false := beq_eq_false_iff_ne.mpr c12
            have c12b1 : ((l1.length : Int) != (l0.length : Int)) = true := bne_iff_ne.mpr c12
            have c12b2 : (l1.length == l0.length) = false := by first | simpa using c12 | (simp at c12 ⊢; omega)
            have H' := Aside0.mk H
            clear H
            go_wp2
            go_meet
            case rel => exact ⟨_, (true), (by first | rfl | (simp; done) | (simp [*]; done)), H', ⟨by first | omega | exact Nat.le_refl _⟩, ⟨by repeat (first | (with_reducible first | exact HB.out | apply below_alloc | apply pw_below_drewN | apply below_drew1) | exact HB.out)⟩⟩
    case rest =>
      clear HC8
      try clear c1
      try clear c2
      try clear p2
      try clear c4
      try clear c7
      try clear c9
      try clear c10
      try clear c10b0
      try clear c10b1
      try clear c11
      try clear c11b0
      try clear c11b1
      try clear c12
      try clear c12b0
      try clear c12b1
      try clear c12b2
      try clear c13
      try clear c13b0
      try clear c13b1
      try clear c13b2
      try clear c14
      try clear c14b0
      obtain ⟨kq, x45_7, rfl, HA, HJ7, HB⟩ := hcut
      cases kq with
      | zero => exact absurd HA.out (by simp [tiklaw2_WireSums.j0])
      | succ kj7 =>
        have H := HA.out
        clear HA
        simp only [tiklaw2_WireSums.j0] at H
        by_cases c15 : x45_7 = true
        · subst c15
          have H1 : ((tiklaw2_first.f).bind fun t127 => (some t127)) = some r := by rw [if_pos rfl] at H; exact H
          clear H
          have H := H1
          clear H1
          replace H := Option.bind_eq_some_iff.mp H
          obtain ⟨t127, A160, H⟩ := H
          replace H : (some t127) = some r := H
          have A16 := Aside0.mk A160
          clear A160
          obtain rfl := Option.some.inj H
          go_wp2_with (first | ((with_reducible refine gate_callee (f := 9) rfl ?_); refine goesL_ (some 46) rfl rfl Try.func9 (by kernel_rfl) rfl #[] rfl (by (try simp only [List.map_toArray, List.map_cons, List.map_nil]); first | done | rfl | (simp only [List.length_drop, List.length_take]; rfl)) ?_; (with_reducible refine (tiklaw2_first.calls  t127 _ A16.out).mono ?_); rintro e w17 ⟨rfl, hb⟩; refine ⟨_, rfl, ?_⟩; have n0_ := Aside0.mk (below_step (by repeat (first | (with_reducible first | exact HB.out | apply below_alloc | apply pw_below_drewN | apply below_drew1) | exact HB.out)) hb); clear HB; have HB := n0_; clear n0_; (try clear hb); (try clear hb2); (try clear hk); (try clear hi)))
          go_ret
          exact ⟨by first | rfl | (simp [errW_none, errW_some] <;> rfl) | (simp [*, errW_none, errW_some] <;> rfl), by repeat (first | (with_reducible first | exact HB.out | apply below_alloc | apply pw_below_drewN | apply below_drew1) | exact HB.out)⟩
        · replace c15 := Bool.eq_false_iff.mpr c15
          subst c15
          have H1 : (if 0 ≤ (l0.length : Int) then (if ((l0.length : Int) : Int).toNat ≤ 281474976710656 then (tiklaw2_WireSums.l0 kj7 l0 l1 l2 a3 a4 (List.replicate ((l0.length : Int) : Int).toNat 0) 0) else (none)) else (none)) = some r := by rw [if_neg (show ¬ (false = true) by decide)] at H; exact H
          clear H
          have H := H1
          clear H1
          by_cases c18 : 0 ≤ (l0.length : Int)
          · rw [if_pos c18] at H
            have c18b0 := eq_true c18
            have c18b1 : decide (0 ≤ (l0.length : Int)) = true := decide_eq_true c18
            clear c18
            by_cases c19 : ((l0.length : Int) : Int).toNat ≤ 281474976710656
            · rw [if_pos c19] at H
              have c19b0 := eq_true c19
              have c19b1 : decide (((l0.length : Int) : Int).toNat ≤ 281474976710656) = true := decide_eq_true c19
              clear c19
              obtain ⟨y128, hy128⟩ : ∃ y_ : List Int, y_ = (List.replicate ((l0.length : Int) : Int).toNat 0) := ⟨_, rfl⟩
              replace H : (tiklaw2_WireSums.l0 kj7 l0 l1 l2 a3 a4 y128 0) = some r := by first | (rw [hy128]; with_reducible exact H) | (have H2_ := (Option.bind_some _ _).symm.trans H; rw [hy128]; with_reducible exact H2_) | (have H2_ := (Option.bind_some _ _).symm.trans H; with_reducible exact H2_) | with_reducible exact H | (rw [hy128]; exact H) | exact H
              have Ny128 := Aside0.mk hy128
              clear hy128
              have H' := Aside0.mk H
              clear H
              go_wp2_with (first | ((with_reducible refine gate_dst (N := 49) rfl ?_); (try (refine gate_guard (by rfl) ?_; dsimp only)); refine Kd.R_make (Kd.int .u8) _ 5 rfl (N := 49) rfl 23 _ _ rfl (l0.length : Int) rfl rfl Try.underlying23 (.int .u8 0) 1 info5 rfl (by decide) (by omega) 0 (ok := fun _ => True) (okp := fun _ => True) rfl (fun _ hk => hk) trivial (of_decide_eq_true (by first | (with_reducible assumption) | assumption)) (Nat.le_trans (Nat.mul_le_mul_right _ (of_decide_eq_true (by first | (with_reducible assumption) | assumption) : (l0.length : Int).toNat ≤ 281474976710656)) (by omega)) (Below.refl _ _) (Nat.le_refl _) ?_; intro v129 w20 ho21 hb hg_ hnew_; clear hg_ hnew_; (first | rw [← Ny128.out] at ho21 | (simp only [Int.reduceToNat] at ho21; rw [← Ny128.out] at ho21)); have n0_ := Aside0.mk (Kd.R_lower ho21 (below_size (by repeat (first | (with_reducible first | exact HB.out | apply below_alloc | apply pw_below_drewN | apply below_drew1) | exact HB.out)))); have n1_ := Aside0.mk (below_step (by repeat (first | (with_reducible first | exact HB.out | apply below_alloc | apply pw_below_drewN | apply below_drew1) | exact HB.out)) hb); clear HB; have HO130 := n0_; have HB := n1_; clear n0_ n1_; clear hb ho21))
              go_loopg [12] kj7 (fun kq v12 w' => ∃ (x11_2 : List Int) (x12_2 : Int), v12 = .int .i64 x12_2 ∧ Aside0 (tiklaw2_WireSums.l0 kq l0 l1 l2 a3 a4 x11_2 x12_2 = some r) ∧ Aside0 (kq ≤ kj7) ∧ Aside0 (Kd.R (Kd.int .u8) 5 w' w.heap.size (fun _ => True) v129 x11_2) ∧ Aside0 (Below w.heap.size w w'))
              case atStart => exact ⟨(y128), (0), (by first | rfl | (simp; done) | (simp [*]; done)), H', ⟨Nat.le_refl _⟩, ⟨by (with_reducible repeat (first | apply Kd.R_alloc | apply Kd.R_drewN | apply Kd.R_drew)); exact HO130.out⟩, ⟨by repeat (first | (with_reducible first | exact HB.out | apply below_alloc | apply pw_below_drewN | apply below_drew1) | exact HB.out)⟩⟩
              case round =>
                clear H'
                try clear c1
                try clear c2
                try clear p2
                try clear c4
                try clear c7
                try clear c9
                try clear c10
                try clear c10b0
                try clear c10b1
                try clear c11
                try clear c11b0
                try clear c11b1
                try clear c12
                try clear c12b0
                try clear c12b1
                try clear c12b2
                try clear c13
                try clear c13b0
                try clear c13b1
                try clear c13b2
                try clear c14
                try clear c14b0
                try clear c15
                try clear c18
                try clear c18b0
                try clear c18b1
                try clear c19
                try clear c19b0
                try clear c19b1
                try clear p2
                obtain ⟨x11_2, x12_2, rfl, HA, HK2, HO_11, HB⟩ := hrel
                cases gk with
                | zero => exact absurd HA.out (by simp [tiklaw2_WireSums.l0])
                | succ k2 =>
                  have H := HA.out
                  clear HA
                  simp only [tiklaw2_WireSums.l0] at H
                  by_cases c22 : x12_2 < (l0.length : Int)
                  · rw [if_pos c22] at H
                    have c22b0 : decide (x12_2 < (l0.length : Int)) = true := decide_eq_true c22
                    clear c22
                    by_cases c23 : 0 ≤ x12_2
                    · rw [if_pos c23] at H
                      have c23b0 : decide (0 ≤ x12_2) = true := decide_eq_true c23
                      clear c23
                      by_cases c24 : x12_2 < (l1.length : Int)
                      · rw [if_pos c24] at H
                        have c24b0 : decide (x12_2 < (l1.length : Int)) = true := decide_eq_true c24
                        clear c24
                        by_cases c25 : x12_2 < (l2.length : Int)
                        · rw [if_pos c25] at H
                          have c25b0 : decide (x12_2 < (l2.length : Int)) = true := decide_eq_true c25
                          clear c25
                          by_cases c26 : x12_2 < (x11_2.length : Int)
                          · rw [if_pos c26] at H
                            have c26b0 : decide (x12_2 < (x11_2.length : Int)) = true := decide_eq_true c26
                            clear c26
                            obtain ⟨y134, hy134⟩ : ∃ y_ : List Int, y_ = (x11_2.set (x12_2 : Int).toNat (Go.bits .xor .u8 (Go.bits .xor .u8 (rd l0 x12_2) (rd l1 x12_2)) (rd l2 x12_2))) := ⟨_, rfl⟩
                            replace H : (tiklaw2_WireSums.l0 k2 l0 l1 l2 a3 a4 y134 (wrap64 (x12_2 + 1))) = some r := by first | (rw [hy134]; with_reducible exact H) | (have H2_ := (Option.bind_some _ _).symm.trans H; rw [hy134]; with_reducible exact H2_) | (have H2_ := (Option.bind_some _ _).symm.trans H; with_reducible exact H2_) | with_reducible exact H | (rw [hy134]; exact H) | exact H
                            have Ny134 := Aside0.mk hy134
                            clear hy134
                            have H' := Aside0.mk H
                            clear H
                            try go_wp2
                            have n0_ := Aside0.mk (Kd.R_drew HO_11.out)
                            have n1_ := Aside0.mk (below_drew1 HB.out)
                            clear HO_11
                            clear HB
                            have HO_11 := n0_
                            have HB := n1_
                            clear n0_ n1_
                            have p131 : 0 ≤ (x12_2 : Int) := of_decide_eq_true (by first | (with_reducible assumption) | assumption)
                            have q131 : x12_2 < (l0.length : Int) := of_decide_eq_true (by first | (with_reducible assumption) | assumption)
                            obtain ⟨ad131, e131, hx131_0⟩ := Kd.at_int HR0.out x12_2 p131 q131
                            have hw131_0 := hx131_0
                            cases e131
                            replace hx131_0 := (HB.out.cell (World.block_lt_of_cell? w _ hx131_0)).trans hx131_0
                            replace p131 := eq_true p131
                            replace q131 := eq_true q131
                            have p132 : 0 ≤ (x12_2 : Int) := of_decide_eq_true (by first | (with_reducible assumption) | assumption)
                            have q132 : x12_2 < (l1.length : Int) := of_decide_eq_true (by first | (with_reducible assumption) | assumption)
                            obtain ⟨ad132, e132, hx132_0⟩ := Kd.at_int HR1.out x12_2 p132 q132
                            have hw132_0 := hx132_0
                            cases e132
                            replace hx132_0 := (HB.out.cell (World.block_lt_of_cell? w _ hx132_0)).trans hx132_0
                            replace p132 := eq_true p132
                            replace q132 := eq_true q132
                            have p133 : 0 ≤ (x12_2 : Int) := of_decide_eq_true (by first | (with_reducible assumption) | assumption)
                            have q133 : x12_2 < (l2.length : Int) := of_decide_eq_true (by first | (with_reducible assumption) | assumption)
                            obtain ⟨ad133, e133, hx133_0⟩ := Kd.at_int HR2.out x12_2 p133 q133
                            have hw133_0 := hx133_0
                            cases e133
                            replace hx133_0 := (HB.out.cell (World.block_lt_of_cell? w _ hx133_0)).trans hx133_0
                            replace p133 := eq_true p133
                            replace q133 := eq_true q133
                            have p27 : 0 ≤ (x12_2 : Int) := of_decide_eq_true (by first | (with_reducible assumption) | assumption)
                            have q27 : (x12_2 : Int) < ((x11_2.length : Int) : Int) := of_decide_eq_true (by first | (with_reducible assumption) | assumption)
                            obtain ⟨go27, co27, eo27, gb27, gl27, cl27, HG27⟩ := Kd.R_form HO_11.out (by omega)
                            (first | cases eo27 | (injection eo27 with ea_ en_ ec_; (first | subst ea_ | (injection ea_ with ea_; subst ea_)); subst ec_; clear en_))
                            have GB27 := Aside0.mk gb27
                            have GG27 := Aside0.mk HG27
                            clear gb27 gl27 HG27
                            obtain ⟨hx27_0, hf27_0⟩ := Kd.R_celln 0 HO_11.out (x12_2 : Int) p27 q27
                            replace p27 := eq_true p27
                            replace q27 := eq_true q27
                            have HP29 := Kd.R_putn HO_11.out (x12_2 : Int) (Go.bits .xor .u8 (Go.bits .xor .u8 (rd l0 x12_2) (rd l1 x12_2)) (rd l2 x12_2))
                            rw [← Ny134.out] at HP29
                            have HQ29 := Aside0.mk HP29
                            clear HP29
                            refine start_ (n := 18) (S := fun w' => w'.cell? (ad131.add (x12_2).toNat) = some (.int .u8 (rd l0 x12_2)) ∧ w'.cell? (ad132.add (x12_2).toNat) = some (.int .u8 (rd l1 x12_2)) ∧ w'.cell? (ad133.add (x12_2).toNat) = some (.int .u8 (rd l2 x12_2))) (ds := [17]) #[false, false, false, false, false, false, false, false, false, false, false, false, false, false, false, false, false, false] (by kernel_rfl) rfl rfl ⟨((HB.out.cell (World.block_lt_of_cell? w _ hw131_0)).trans hw131_0), ((HB.out.cell (World.block_lt_of_cell? w _ hw132_0)).trans hw132_0), ((HB.out.cell (World.block_lt_of_cell? w _ hw133_0)).trans hw133_0)⟩ (fun hHeld => ?_); refine with_tabW tiklaw2_WireSums.tab9 tiklaw2_WireSums.bits9 (fun HT_ HW_ => ?_)
                            generalize wr.drew = w28 at HO_11 HB GG27 HQ29 hf27_0 hx131_0 hx132_0 hx133_0 hx27_0 hHeld ⊢
                            refine pure_ (i := 0) (N := some 56) (v := ?_) (a' := ?_) #[true, false, false, false, false, false, false, false, false, false, false, false, false, false, false, false, false, false] rfl rfl (any_of HT_.out (by kernel_rfl)) (fun _ _ _ h => h) (Or.inl ⟨by rfl, ?_⟩) ?_ ?_
                            rotate_left
                            · intro w'
                              go_simp
                              with_reducible rfl
                            rotate_left
                            · simp only [Act.put, List.setIfInBounds_toArray, List.set_cons_zero, List.set_cons_succ, i64_w, i32_w]
                              rfl
                            refine pure_ (i := 1) (N := some 57) (v := ?_) (a' := ?_) #[true, true, false, false, false, false, false, false, false, false, false, false, false, false, false, false, false, false] rfl rfl (any_of HT_.out (by kernel_rfl)) (fun _ _ _ h => h) (Or.inl ⟨by rfl, ?_⟩) ?_ ?_
                            rotate_left
                            · intro w'
                              go_simp
                              with_reducible rfl
                            rotate_left
                            · simp only [Act.put, List.setIfInBounds_toArray, List.set_cons_zero, List.set_cons_succ, i64_w, i32_w]
                              rfl
                            refine pure_ (i := 2) (N := some 58) (v := ?_) (a' := ?_) #[true, true, true, false, false, false, false, false, false, false, false, false, false, false, false, false, false, false] rfl rfl (any_of HT_.out (by kernel_rfl)) (fun _ _ _ h => h) (Or.inl ⟨by rfl, ?_⟩) ?_ ?_
                            rotate_left
                            · intro w'
                              go_simp
                              with_reducible rfl
                            rotate_left
                            · simp only [Act.put, List.setIfInBounds_toArray, List.set_cons_zero, List.set_cons_succ, i64_w, i32_w]
                              rfl
                            refine pure_ (i := 3) (N := some 59) (v := ?_) (a' := ?_) #[true, true, true, true, false, false, false, false, false, false, false, false, false, false, false, false, false, false] rfl rfl (any_of HT_.out (by kernel_rfl)) (fun _ _ _ h => h) (Or.inl ⟨by rfl, ?_⟩) ?_ ?_
                            rotate_left
                            · intro w'
                              go_simp
                              with_reducible rfl
                            rotate_left
                            · simp only [Act.put, List.setIfInBounds_toArray, List.set_cons_zero, List.set_cons_succ, i64_w, i32_w]
                              rfl
                            refine pure_ (i := 4) (N := some 60) (v := ?_) (a' := ?_) #[true, true, true, true, true, false, false, false, false, false, false, false, false, false, false, false, false, false] rfl rfl (any_of HT_.out (by kernel_rfl)) (fun _ _ _ h => h) (Or.inl ⟨by rfl, ?_⟩) ?_ ?_
                            rotate_left
                            · intro w'
                              go_simp
                              with_reducible rfl
                            rotate_left
                            · simp only [Act.put, List.setIfInBounds_toArray, List.set_cons_zero, List.set_cons_succ, i64_w, i32_w]
                              rfl
                            refine pure_ (i := 6) (N := some 62) (v := ?_) (a' := ?_) #[true, true, true, true, true, false, true, false, false, false, false, false, false, false, false, false, false, false] rfl rfl (any_of HT_.out (by kernel_rfl)) (fun _ _ _ h => h) (Or.inl ⟨by rfl, ?_⟩) ?_ ?_
                            rotate_left
                            · intro w'
                              go_simp
                              with_reducible rfl
                            rotate_left
                            · simp only [Act.put, List.setIfInBounds_toArray, List.set_cons_zero, List.set_cons_succ, i64_w, i32_w]
                              rfl
                            refine pure_ (i := 7) (N := some 63) (v := ?_) (a' := ?_) #[true, true, true, true, true, false, true, true, false, false, false, false, false, false, false, false, false, false] rfl rfl (any_of HT_.out (by kernel_rfl)) (fun _ _ _ h => h) (Or.inl ⟨by rfl, ?_⟩) ?_ ?_
                            rotate_left
                            · intro w'
                              go_simp
                              with_reducible rfl
                            rotate_left
                            · simp only [Act.put, List.setIfInBounds_toArray, List.set_cons_zero, List.set_cons_succ, i64_w, i32_w]
                              rfl
                            refine pure_ (i := 8) (N := some 64) (v := ?_) (a' := ?_) #[true, true, true, true, true, false, true, true, true, false, false, false, false, false, false, false, false, false] rfl rfl (any_of HT_.out (by kernel_rfl)) (fun _ _ _ h => h) (Or.inl ⟨by rfl, ?_⟩) ?_ ?_
                            rotate_left
                            · intro w'
                              go_simp
                              with_reducible rfl
                            rotate_left
                            · simp only [Act.put, List.setIfInBounds_toArray, List.set_cons_zero, List.set_cons_succ, i64_w, i32_w]
                              rfl
                            refine pure_ (i := 11) (N := some 67) (v := ?_) (a' := ?_) #[true, true, true, true, true, false, true, true, true, false, false, true, false, false, false, false, false, false] rfl rfl (any_of HT_.out (by kernel_rfl)) (fun _ _ _ h => h) (Or.inl ⟨by rfl, ?_⟩) ?_ ?_
                            rotate_left
                            · intro w'
                              go_simp
                              with_reducible rfl
                            rotate_left
                            · simp only [Act.put, List.setIfInBounds_toArray, List.set_cons_zero, List.set_cons_succ, i64_w, i32_w]
                              rfl
                            refine pure_ (i := 12) (N := some 68) (v := ?_) (a' := ?_) #[true, true, true, true, true, false, true, true, true, false, false, true, true, false, false, false, false, false] rfl rfl (any_of HT_.out (by kernel_rfl)) (fun _ _ _ h => h) (Or.inl ⟨by rfl, ?_⟩) ?_ ?_
                            rotate_left
                            · intro w'
                              go_simp
                              with_reducible rfl
                            rotate_left
                            · simp only [Act.put, List.setIfInBounds_toArray, List.set_cons_zero, List.set_cons_succ, i64_w, i32_w]
                              rfl
                            refine pure_ (i := 13) (N := some 69) (v := ?_) (a' := ?_) #[true, true, true, true, true, false, true, true, true, false, false, true, true, true, false, false, false, false] rfl rfl (any_of HT_.out (by kernel_rfl)) (fun _ _ _ h => h) (Or.inl ⟨by rfl, ?_⟩) ?_ ?_
                            rotate_left
                            · intro w'
                              go_simp
                              with_reducible rfl
                            rotate_left
                            · simp only [Act.put, List.setIfInBounds_toArray, List.set_cons_zero, List.set_cons_succ, i64_w, i32_w]
                              rfl
                            refine take_ (i := 5) (N := some 61) (v := ?_) (a' := ?_) #[true, true, true, true, true, true, true, true, true, false, false, true, true, true, false, false, false, false] rfl rfl (take_ofW HT_.out HW_.out (by kernel_rfl)) (fun _ _ _ h => h) (Or.inl ⟨by rfl, ?_⟩) hHeld ?_ ?_
                            rotate_left
                            · rintro w' ⟨s0, s1, s2⟩
                              go_simp
                              with_reducible rfl
                            rotate_left
                            · simp only [Act.put, List.setIfInBounds_toArray, List.set_cons_zero, List.set_cons_succ, i64_w, i32_w]
                              rfl
                            refine take_ (i := 9) (N := some 65) (v := ?_) (a' := ?_) #[true, true, true, true, true, true, true, true, true, true, false, true, true, true, false, false, false, false] rfl rfl (take_ofW HT_.out HW_.out (by kernel_rfl)) (fun _ _ _ h => h) (Or.inl ⟨by rfl, ?_⟩) hHeld ?_ ?_
                            rotate_left
                            · rintro w' ⟨s0, s1, s2⟩
                              go_simp
                              with_reducible rfl
                            rotate_left
                            · simp only [Act.put, List.setIfInBounds_toArray, List.set_cons_zero, List.set_cons_succ, i64_w, i32_w]
                              rfl
                            refine pure_ (i := 10) (N := some 66) (v := ?_) (a' := ?_) #[true, true, true, true, true, true, true, true, true, true, true, true, true, true, false, false, false, false] rfl rfl (any_of HT_.out (by kernel_rfl)) (fun _ _ _ h => h) (Or.inl ⟨by rfl, ?_⟩) ?_ ?_
                            rotate_left
                            · intro w'
                              go_simp
                              with_reducible rfl
                            rotate_left
                            · simp only [Act.put, List.setIfInBounds_toArray, List.set_cons_zero, List.set_cons_succ, i64_w, i32_w]
                              rfl
                            refine take_ (i := 14) (N := some 70) (v := ?_) (a' := ?_) #[true, true, true, true, true, true, true, true, true, true, true, true, true, true, true, false, false, false] rfl rfl (take_ofW HT_.out HW_.out (by kernel_rfl)) (fun _ _ _ h => h) (Or.inl ⟨by rfl, ?_⟩) hHeld ?_ ?_
                            rotate_left
                            · rintro w' ⟨s0, s1, s2⟩
                              go_simp
                              with_reducible rfl
                            rotate_left
                            · simp only [Act.put, List.setIfInBounds_toArray, List.set_cons_zero, List.set_cons_succ, i64_w, i32_w]
                              rfl
                            refine pure_ (i := 15) (N := some 71) (v := ?_) (a' := ?_) #[true, true, true, true, true, true, true, true, true, true, true, true, true, true, true, true, false, false] rfl rfl (any_of HT_.out (by kernel_rfl)) (fun _ _ _ h => h) (Or.inl ⟨by rfl, ?_⟩) ?_ ?_
                            rotate_left
                            · intro w'
                              go_simp
                              with_reducible rfl
                            rotate_left
                            · simp only [Act.put, List.setIfInBounds_toArray, List.set_cons_zero, List.set_cons_succ, i64_w, i32_w]
                              rfl
                            refine pure_ (i := 16) (N := some 72) (v := ?_) (a' := ?_) #[true, true, true, true, true, true, true, true, true, true, true, true, true, true, true, true, true, false] rfl rfl (any_of HT_.out (by kernel_rfl)) (fun _ _ _ h => h) (Or.inl ⟨by rfl, ?_⟩) ?_ ?_
                            rotate_left
                            · intro w'
                              go_simp
                              with_reducible rfl
                            rotate_left
                            · simp only [Act.put, List.setIfInBounds_toArray, List.set_cons_zero, List.set_cons_succ, i64_w, i32_w]
                              rfl
                            refine last_ (i := 17) (N := none) #[true, true, true, true, true, true, true, true, true, true, true, true, true, true, true, true, true, true] rfl rfl (one_of HT_.out (by kernel_rfl)) (by decide) (fun K hK => ?_)
                            refine skip_ (w1 := ?_) (by rfl) rfl ?_ ?_
                            rotate_left
                            · go_simp
                              rfl
                            refine hK.out _ _ ?_
                            clear hK K
                            refine done_ (done_of HT_.out (by kernel_rfl)) ?_
                            try go_wp2
                            go_roundg k2
                            case measure => have := HJ7.out; have := HK2.out; omega
                            case rel => exact ⟨(y134), (wrap64 (x12_2 + 1)), (by first | rfl | (simp; done) | (simp [*]; done)), H', ⟨by have := HJ7.out; have := HK2.out; omega⟩, ⟨by (with_reducible repeat (first | apply Kd.R_alloc | apply Kd.R_drewN | apply Kd.R_drew)); exact HQ29.out⟩, ⟨by repeat (first | (with_reducible first | exact HB.out | apply below_alloc | apply pw_below_drewN | apply below_drew1 | refine below_set ?_ GB27.out) | exact HB.out)⟩⟩
                          · rw [if_neg c26] at H
                            exact absurd H (by simp)
                        · rw [if_neg c25] at H
                          exact absurd H (by simp)
                      · rw [if_neg c24] at H
                        exact absurd H (by simp)
                    · rw [if_neg c23] at H
                      exact absurd H (by simp)
                  · rw [if_neg c22] at H
                    have c22b0 : decide (x12_2 < (l0.length : Int)) = false := decide_eq_false c22
                    clear c22
                    replace H := Option.bind_eq_some_iff.mp H
                    obtain ⟨t135, A300, H⟩ := H
                    replace H : (if (t135.length : Int) = 0 then (none) else (if 0 ≤ (Int.tmod a3 (t135.length : Int)) then (if (Int.tmod a3 (t135.length : Int)) < (t135.length : Int) then ((tiklaw2_first.f).bind fun t140 => (if t140 = true then ((wire_Crc.f k2 x11_2).bind fun t141 => ((wire_Crc.f k2 l0).bind fun t142 => ((wire_Crc.f k2 l1).bind fun t143 => ((wire_Crc.f k2 l2).bind fun t144 => (if t141 = (Go.bits .xor .u32 (Go.bits .xor .u32 t142 t143) t144) then ((wire_Crc.f k2 (t135.set ((Int.tmod a3 (t135.length : Int)) : Int).toNat (Go.bits .xor .u8 (rd t135 (Int.tmod a3 (t135.length : Int))) a4))).bind fun t145 => ((wire_Crc.f k2 l0).bind fun t146 => (some (t145 != t146)))) else (some false)))))) else (some false))) else (none)) else (none))) = some r := H
                    have A30 := Aside0.mk A300
                    clear A300
                    by_cases c31 : (t135.length : Int) = 0
                    · rw [if_pos c31] at H
                      exact absurd H (by simp)
                    · rw [if_neg c31] at H
                      have c31b0 : ((t135.length : Int) == 0) = false := beq_eq_false_iff_ne.mpr c31
                      have c31b1 : ((t135.length : Int) != 0) = true := bne_iff_ne.mpr c31
                      have c31b2 : ¬ (t135 = []) := fun h_ => c31 (by rw [h_]; rfl)
                      obtain ⟨ji32, hji32⟩ : ∃ j_ : Int, (Int.tmod a3 (t135.length : Int)) = j_ := ⟨_, rfl⟩
                      replace H : (if 0 ≤ (ji32) then (if (ji32) < (t135.length : Int) then ((tiklaw2_first.f).bind fun t140 => (if t140 = true then ((wire_Crc.f k2 x11_2).bind fun t141 => ((wire_Crc.f k2 l0).bind fun t142 => ((wire_Crc.f k2 l1).bind fun t143 => ((wire_Crc.f k2 l2).bind fun t144 => (if t141 = (Go.bits .xor .u32 (Go.bits .xor .u32 t142 t143) t144) then ((wire_Crc.f k2 (t135.set ((ji32) : Int).toNat (Go.bits .xor .u8 (rd t135 (ji32)) a4))).bind fun t145 => ((wire_Crc.f k2 l0).bind fun t146 => (some (t145 != t146)))) else (some false)))))) else (some false))) else (none)) else (none)) = some r := by first | (rw [hji32] at H; exact H) | (simp only [hji32] at H ⊢; exact H)
                      (try rw [hji32] at A30)
                      by_cases c33 : 0 ≤ (ji32)
                      · rw [if_pos c33] at H
                        have c33b0 : decide (0 ≤ (ji32)) = true := decide_eq_true c33
                        clear c33
                        by_cases c34 : (ji32) < (t135.length : Int)
                        · rw [if_pos c34] at H
                          have c34b0 : decide ((ji32) < (t135.length : Int)) = true := decide_eq_true c34
                          clear c34
                          obtain ⟨y139, hy139⟩ : ∃ y_ : List Int, y_ = (t135.set ((ji32) : Int).toNat (Go.bits .xor .u8 (rd t135 (ji32)) a4)) := ⟨_, rfl⟩
                          replace H : ((tiklaw2_first.f).bind fun t140 => (if t140 = true then ((wire_Crc.f k2 x11_2).bind fun t141 => ((wire_Crc.f k2 l0).bind fun t142 => ((wire_Crc.f k2 l1).bind fun t143 => ((wire_Crc.f k2 l2).bind fun t144 => (if t141 = (Go.bits .xor .u32 (Go.bits .xor .u32 t142 t143) t144) then ((wire_Crc.f k2 y139).bind fun t145 => ((wire_Crc.f k2 l0).bind fun t146 => (some (t145 != t146)))) else (some false)))))) else (some false))) = some r := by first | (rw [hy139]; with_reducible exact H) | (have H2_ := (Option.bind_some _ _).symm.trans H; rw [hy139]; with_reducible exact H2_) | (have H2_ := (Option.bind_some _ _).symm.trans H; with_reducible exact H2_) | with_reducible exact H | (rw [hy139]; exact H) | exact H
                          have Ny139 := Aside0.mk hy139
                          clear hy139
                          replace H := Option.bind_eq_some_iff.mp H
                          obtain ⟨t140, A360, H⟩ := H
                          replace H : (if t140 = true then ((wire_Crc.f k2 x11_2).bind fun t141 => ((wire_Crc.f k2 l0).bind fun t142 => ((wire_Crc.f k2 l1).bind fun t143 => ((wire_Crc.f k2 l2).bind fun t144 => (if t141 = (Go.bits .xor .u32 (Go.bits .xor .u32 t142 t143) t144) then ((wire_Crc.f k2 y139).bind fun t145 => ((wire_Crc.f k2 l0).bind fun t146 => (some (t145 != t146)))) else (some false)))))) else (some false)) = some r := H
                          have A36 := Aside0.mk A360
                          clear A360
                          by_cases c37 : t140 = true
                          · subst c37
                            have H1 : ((wire_Crc.f k2 x11_2).bind fun t141 => ((wire_Crc.f k2 l0).bind fun t142 => ((wire_Crc.f k2 l1).bind fun t143 => ((wire_Crc.f k2 l2).bind fun t144 => (if t141 = (Go.bits .xor .u32 (Go.bits .xor .u32 t142 t143) t144) then ((wire_Crc.f k2 y139).bind fun t145 => ((wire_Crc.f k2 l0).bind fun t146 => (some (t145 != t146)))) else (some false)))))) = some r := by rw [if_pos rfl] at H; exact H
                            clear H
                            have H := H1
                            clear H1
                            replace H := Option.bind_eq_some_iff.mp H
                            obtain ⟨t141, A380, H⟩ := H
                            replace H : ((wire_Crc.f k2 l0).bind fun t142 => ((wire_Crc.f k2 l1).bind fun t143 => ((wire_Crc.f k2 l2).bind fun t144 => (if t141 = (Go.bits .xor .u32 (Go.bits .xor .u32 t142 t143) t144) then ((wire_Crc.f k2 y139).bind fun t145 => ((wire_Crc.f k2 l0).bind fun t146 => (some (t145 != t146)))) else (some false))))) = some r := H
                            have A38 := Aside0.mk A380
                            clear A380
                            replace H := Option.bind_eq_some_iff.mp H
                            obtain ⟨t142, A390, H⟩ := H
                            replace H : ((wire_Crc.f k2 l1).bind fun t143 => ((wire_Crc.f k2 l2).bind fun t144 => (if t141 = (Go.bits .xor .u32 (Go.bits .xor .u32 t142 t143) t144) then ((wire_Crc.f k2 y139).bind fun t145 => ((wire_Crc.f k2 l0).bind fun t146 => (some (t145 != t146)))) else (some false)))) = some r := H
                            have A39 := Aside0.mk A390
                            clear A390
                            replace H := Option.bind_eq_some_iff.mp H
                            obtain ⟨t143, A400, H⟩ := H
                            replace H : ((wire_Crc.f k2 l2).bind fun t144 => (if t141 = (Go.bits .xor .u32 (Go.bits .xor .u32 t142 t143) t144) then ((wire_Crc.f k2 y139).bind fun t145 => ((wire_Crc.f k2 l0).bind fun t146 => (some (t145 != t146)))) else (some false))) = some r := H
                            have A40 := Aside0.mk A400
                            clear A400
                            replace H := Option.bind_eq_some_iff.mp H
                            obtain ⟨t144, A410, H⟩ := H
                            replace H : (if t141 = (Go.bits .xor .u32 (Go.bits .xor .u32 t142 t143) t144) then ((wire_Crc.f k2 y139).bind fun t145 => ((wire_Crc.f k2 l0).bind fun t146 => (some (t145 != t146)))) else (some false)) = some r := H
                            have A41 := Aside0.mk A410
                            clear A410
                            by_cases c42 : t141 = (Go.bits .xor .u32 (Go.bits .xor .u32 t142 t143) t144)
                            · rw [if_pos c42] at H
                              have c42b0 : (t141 == (Go.bits .xor .u32 (Go.bits .xor .u32 t142 t143) t144)) = true := beq_iff_eq.mpr c42
                              have c42b1 : (t141 != (Go.bits .xor .u32 (Go.bits .xor .u32 t142 t143) t144)) = false := bne_eq_false_iff_eq.mpr c42
                              clear c42
                              replace H := Option.bind_eq_some_iff.mp H
                              obtain ⟨t145, A430, H⟩ := H
                              replace H : ((wire_Crc.f k2 l0).bind fun t146 => (some (t145 != t146))) = some r := H
                              have A43 := Aside0.mk A430
                              clear A430
                              replace H := Option.bind_eq_some_iff.mp H
                              obtain ⟨t146, A440, H⟩ := H
                              replace H : (some (t145 != t146)) = some r := H
                              have A44 := Aside0.mk A440
                              clear A440
                              obtain rfl : t142 = t146 := Option.some.inj (A39.out.symm.trans A44.out)
                              obtain rfl := Option.some.inj H
                              try go_wp2_with (first | ((with_reducible refine gate_callee (f := 19) rfl ?_); refine goesL_ (some 74) rfl rfl Try.func19 (by kernel_rfl) rfl #[.slice A0 l0.length c0] rfl (by (try simp only [List.map_toArray, List.map_cons, List.map_nil]); first | done | rfl | (simp only [List.length_drop, List.length_take]; rfl)) ?_; (with_reducible refine (tikref_CopyBytes.calls _ _ l0 t135 _ ?side1 ?side2 A30.out).mono ?_); (case side1 => repeat (first | exact (Kd.C_below HR0.out HB.out) | (with_reducible refine Kd.C_alloc ?_ _) | (with_reducible refine Kd.C_drewN ?_ _) | (with_reducible refine Kd.C_drew ?_))); (case side2 => exact HC0.out); rintro e w45 ⟨v136, rfl, ho0, hb⟩; refine ⟨_, rfl, ?_⟩; have n0_ := Aside0.mk (Kd.R_elder' (by (with_reducible repeat (first | apply Kd.R_alloc | apply Kd.R_drewN | apply Kd.R_drew)); exact HO_11.out) (Kd.R_base ho0) hb); have n1_ := Aside0.mk (Kd.R_lower (Kd.R_new' ho0 (Kd.R_lt (by (with_reducible repeat (first | apply Kd.R_alloc | apply Kd.R_drewN | apply Kd.R_drew)); exact HO_11.out))) (below_size (by repeat (first | (with_reducible first | exact HB.out | apply below_alloc | apply pw_below_drewN | apply below_drew1) | exact HB.out)))); have n2_ := Aside0.mk (below_step (by repeat (first | (with_reducible first | exact HB.out | apply below_alloc | apply pw_below_drewN | apply below_drew1) | exact HB.out)) hb); clear HO_11; clear HB; have HO_11 := n0_; have HO137 := n1_; have HB := n2_; clear n0_ n1_ n2_; (try clear hb); (try clear hb2); (try clear hk); (try clear hi); (try clear ho0)))
                              have n0_ := Aside0.mk (Kd.R_drew HO_11.out)
                              have n1_ := Aside0.mk (Kd.R_drew HO137.out)
                              have n2_ := Aside0.mk (below_drew1 HB.out)
                              clear HO_11
                              clear HO137
                              clear HB
                              have HO_11 := n0_
                              have HO137 := n1_
                              have HB := n2_
                              clear n0_ n1_ n2_
                              obtain ⟨Ao47, co47, eo47⟩ := Kd.R_slice HO137.out
                              (first | subst eo47 | (injection eo47 with f1_ f2_ f3_; have f4_ := f1_.symm; have f5_ := f3_.symm; clear f1_ f2_ f3_; subst f4_; subst f5_))
                              have p138 : 0 ≤ ((ji32) : Int) := of_decide_eq_true (by first | (with_reducible assumption) | assumption)
                              have q138 : (ji32) < (t135.length : Int) := of_decide_eq_true (by first | (with_reducible assumption) | assumption)
                              obtain ⟨ad138, e138, hx138_0⟩ := Kd.at_int (Kd.R_reads' HO137.out).2.2 (ji32) p138 q138
                              cases e138
                              replace p138 := eq_true p138
                              replace q138 := eq_true q138
                              have p35 : 0 ≤ ((ji32) : Int) := of_decide_eq_true (by first | (with_reducible assumption) | assumption)
                              have q35 : ((ji32) : Int) < ((t135.length : Int) : Int) := of_decide_eq_true (by first | (with_reducible assumption) | assumption)
                              obtain ⟨go35, co35, eo35, gb35, gl35, cl35, HG35⟩ := Kd.R_form HO137.out (by omega)
                              (first | cases eo35 | (injection eo35 with ea_ en_ ec_; (first | subst ea_ | (injection ea_ with ea_; subst ea_)); subst ec_; clear en_))
                              have GB35 := Aside0.mk gb35
                              have GG35 := Aside0.mk HG35
                              clear gb35 gl35 HG35
                              (first | simp only [add_plain] at hx138_0 | skip)
                              obtain ⟨hx35_0, hf35_0⟩ := Kd.R_celln 0 HO137.out ((ji32) : Int) p35 q35
                              replace p35 := eq_true p35
                              replace q35 := eq_true q35
                              have HP48 := Kd.R_putn HO137.out ((ji32) : Int) (Go.bits .xor .u8 (rd t135 (ji32)) a4)
                              rw [← Ny139.out] at HP48
                              have HQ48 := Aside0.mk HP48
                              clear HP48
                              refine start_ (n := 16) (S := fun w' => w'.cell? ⟨go35, ((ji32)).toNat, none⟩ = some (.int .u8 (rd t135 (ji32)))) (ds := [15]) #[false, false, false, false, false, false, false, false, false, false, false, false, false, false, false, false] (by kernel_rfl) rfl rfl (hx138_0) (fun hHeld => ?_); refine with_tabW tiklaw2_WireSums.tab11 tiklaw2_WireSums.bits11 (fun HT_ HW_ => ?_)
                              generalize w45.drew = w46 at HO_11 HO137 HB GG35 HQ48 hf35_0 hx138_0 hx35_0 hHeld ⊢
                              refine pure_ (i := 0) (N := some 75) (v := ?_) (a' := ?_) #[true, false, false, false, false, false, false, false, false, false, false, false, false, false, false, false] rfl rfl (any_of HT_.out (by kernel_rfl)) (fun _ _ _ h => h) (Or.inl ⟨by rfl, ?_⟩) ?_ ?_
                              rotate_left
                              · intro w'
                                go_simp
                                with_reducible rfl
                              rotate_left
                              · simp only [Act.put, List.setIfInBounds_toArray, List.set_cons_zero, List.set_cons_succ, i64_w, i32_w]
                                rfl
                              refine pure_ (i := 1) (N := some 76) (v := ?_) (a' := ?_) #[true, true, false, false, false, false, false, false, false, false, false, false, false, false, false, false] rfl rfl (any_of HT_.out (by kernel_rfl)) (fun _ _ _ h => h) (Or.inl ⟨by rfl, ?_⟩) ?_ ?_
                              rotate_left
                              · intro w'
                                go_simp
                                with_reducible rfl
                              rotate_left
                              · simp only [Act.put, List.setIfInBounds_toArray, List.set_cons_zero, List.set_cons_succ, i64_w, i32_w]
                                rfl
                              refine pure_ (i := 2) (N := some 77) (v := ?_) (a' := ?_) #[true, true, true, false, false, false, false, false, false, false, false, false, false, false, false, false] rfl rfl (any_of HT_.out (by kernel_rfl)) (fun _ _ _ h => h) (Or.inl ⟨by rfl, ?_⟩) ?_ ?_
                              rotate_left
                              · intro w'
                                go_simp
                                with_reducible rfl
                              rotate_left
                              · simp only [Act.put, List.setIfInBounds_toArray, List.set_cons_zero, List.set_cons_succ, i64_w, i32_w]
                                rfl
                              refine pure_ (i := 3) (N := some 78) (v := ?_) (a' := ?_) #[true, true, true, true, false, false, false, false, false, false, false, false, false, false, false, false] rfl rfl (any_of HT_.out (by kernel_rfl)) (fun _ _ _ h => h) (Or.inl ⟨by rfl, ?_⟩) ?_ ?_
                              rotate_left
                              · intro w'
                                go_simp
                                with_reducible rfl
                              rotate_left
                              · simp only [Act.put, List.setIfInBounds_toArray, List.set_cons_zero, List.set_cons_succ, i64_w, i32_w]
                                rfl
                              refine pure_ (i := 4) (N := some 79) (v := ?_) (a' := ?_) #[true, true, true, true, true, false, false, false, false, false, false, false, false, false, false, false] rfl rfl (any_of HT_.out (by kernel_rfl)) (fun _ _ _ h => h) (Or.inl ⟨by rfl, ?_⟩) ?_ ?_
                              rotate_left
                              · intro w'
                                go_simp
                                with_reducible rfl
                              rotate_left
                              · simp only [Act.put, List.setIfInBounds_toArray, List.set_cons_zero, List.set_cons_succ, i64_w, i32_w]
                                rfl
                              refine pure_ (i := 5) (N := some 80) (v := ?_) (a' := ?_) #[true, true, true, true, true, true, false, false, false, false, false, false, false, false, false, false] rfl rfl (any_of HT_.out (by kernel_rfl)) (fun _ _ _ h => h) (Or.inl ⟨by rfl, ?_⟩) ?_ ?_
                              rotate_left
                              · intro w'
                                go_simp
                                with_reducible rfl
                              rotate_left
                              · simp only [Act.put, List.setIfInBounds_toArray, List.set_cons_zero, List.set_cons_succ, i64_w, i32_w]
                                rfl
                              refine pure_ (i := 6) (N := some 81) (v := ?_) (a' := ?_) #[true, true, true, true, true, true, true, false, false, false, false, false, false, false, false, false] rfl rfl (any_of HT_.out (by kernel_rfl)) (fun _ _ _ h => h) (Or.inl ⟨by rfl, ?_⟩) ?_ ?_
                              rotate_left
                              · intro w'
                                go_simp
                                with_reducible rfl
                              rotate_left
                              · simp only [Act.put, List.setIfInBounds_toArray, List.set_cons_zero, List.set_cons_succ, i64_w, i32_w]
                                rfl
                              refine pure_ (i := 7) (N := some 82) (v := ?_) (a' := ?_) #[true, true, true, true, true, true, true, true, false, false, false, false, false, false, false, false] rfl rfl (any_of HT_.out (by kernel_rfl)) (fun _ _ _ h => h) (Or.inl ⟨by rfl, ?_⟩) ?_ ?_
                              rotate_left
                              · intro w'
                                go_simp
                                with_reducible rfl
                              rotate_left
                              · simp only [Act.put, List.setIfInBounds_toArray, List.set_cons_zero, List.set_cons_succ, i64_w, i32_w]
                                rfl
                              refine pure_ (i := 8) (N := some 83) (v := ?_) (a' := ?_) #[true, true, true, true, true, true, true, true, true, false, false, false, false, false, false, false] rfl rfl (any_of HT_.out (by kernel_rfl)) (fun _ _ _ h => h) (Or.inl ⟨by rfl, ?_⟩) ?_ ?_
                              rotate_left
                              · intro w'
                                go_simp
                                with_reducible rfl
                              rotate_left
                              · simp only [Act.put, List.setIfInBounds_toArray, List.set_cons_zero, List.set_cons_succ, i64_w, i32_w]
                                rfl
                              refine pure_ (i := 9) (N := some 84) (v := ?_) (a' := ?_) #[true, true, true, true, true, true, true, true, true, true, false, false, false, false, false, false] rfl rfl (any_of HT_.out (by kernel_rfl)) (fun _ _ _ h => h) (Or.inl ⟨by rfl, ?_⟩) ?_ ?_
                              rotate_left
                              · intro w'
                                go_simp
                                with_reducible rfl
                              rotate_left
                              · simp only [Act.put, List.setIfInBounds_toArray, List.set_cons_zero, List.set_cons_succ, i64_w, i32_w]
                                rfl
                              refine pure_ (i := 10) (N := some 85) (v := ?_) (a' := ?_) #[true, true, true, true, true, true, true, true, true, true, true, false, false, false, false, false] rfl rfl (any_of HT_.out (by kernel_rfl)) (fun _ _ _ h => h) (Or.inl ⟨by rfl, ?_⟩) ?_ ?_
                              rotate_left
                              · intro w'
                                go_simp
                                with_reducible rfl
                              rotate_left
                              · simp only [Act.put, List.setIfInBounds_toArray, List.set_cons_zero, List.set_cons_succ, i64_w, i32_w]
                                rfl
                              refine pure_ (i := 12) (N := some 87) (v := ?_) (a' := ?_) #[true, true, true, true, true, true, true, true, true, true, true, false, true, false, false, false] rfl rfl (any_of HT_.out (by kernel_rfl)) (fun _ _ _ h => h) (Or.inl ⟨by rfl, ?_⟩) ?_ ?_
                              rotate_left
                              · intro w'
                                go_simp
                                with_reducible rfl
                              rotate_left
                              · simp only [Act.put, List.setIfInBounds_toArray, List.set_cons_zero, List.set_cons_succ, i64_w, i32_w]
                                rfl
                              refine take_ (i := 11) (N := some 86) (v := ?_) (a' := ?_) #[true, true, true, true, true, true, true, true, true, true, true, true, true, false, false, false] rfl rfl (take_ofW HT_.out HW_.out (by kernel_rfl)) (fun _ _ _ h => h) (Or.inl ⟨by rfl, ?_⟩) hHeld ?_ ?_
                              rotate_left
                              · intro w' s0
                                go_simp
                                with_reducible rfl
                              rotate_left
                              · simp only [Act.put, List.setIfInBounds_toArray, List.set_cons_zero, List.set_cons_succ, i64_w, i32_w]
                                rfl
                              refine pure_ (i := 13) (N := some 88) (v := ?_) (a' := ?_) #[true, true, true, true, true, true, true, true, true, true, true, true, true, true, false, false] rfl rfl (any_of HT_.out (by kernel_rfl)) (fun _ _ _ h => h) (Or.inl ⟨by rfl, ?_⟩) ?_ ?_
                              rotate_left
                              · intro w'
                                go_simp
                                with_reducible rfl
                              rotate_left
                              · simp only [Act.put, List.setIfInBounds_toArray, List.set_cons_zero, List.set_cons_succ, i64_w, i32_w]
                                rfl
                              refine pure_ (i := 14) (N := some 89) (v := ?_) (a' := ?_) #[true, true, true, true, true, true, true, true, true, true, true, true, true, true, true, false] rfl rfl (any_of HT_.out (by kernel_rfl)) (fun _ _ _ h => h) (Or.inl ⟨by rfl, ?_⟩) ?_ ?_
                              rotate_left
                              · intro w'
                                go_simp
                                with_reducible rfl
                              rotate_left
                              · simp only [Act.put, List.setIfInBounds_toArray, List.set_cons_zero, List.set_cons_succ, i64_w, i32_w]
                                rfl
                              refine last_ (i := 15) (N := none) #[true, true, true, true, true, true, true, true, true, true, true, true, true, true, true, true] rfl rfl (one_of HT_.out (by kernel_rfl)) (by decide) (fun K hK => ?_)
                              refine skip_ (w1 := ?_) (by rfl) rfl ?_ ?_
                              rotate_left
                              · go_simp
                                rfl
                              refine hK.out _ _ ?_
                              clear hK K
                              refine done_ (done_of HT_.out (by kernel_rfl)) ?_
                              try go_wp2_with (first | ((with_reducible refine gate_callee (f := 9) rfl ?_); refine goesL_ (some 90) rfl rfl Try.func9 (by kernel_rfl) rfl #[] rfl (by (try simp only [List.map_toArray, List.map_cons, List.map_nil]); first | done | rfl | (simp only [List.length_drop, List.length_take]; rfl)) ?_; (with_reducible refine (tiklaw2_first.calls  true _ A36.out).mono ?_); rintro e w49 ⟨rfl, hb⟩; refine ⟨_, rfl, ?_⟩; have n0_ := Aside0.mk (Kd.R_below (by (with_reducible repeat (first | apply Kd.R_alloc | apply Kd.R_drewN | apply Kd.R_drew)); exact (Kd.R_mono (Kd.R_far (p := ⟨go35, ((ji32) : Int).toNat, none⟩) (Kd.R_mono HO_11.out (fun k_ hk => (⟨hk, fun e_ => hk.2 (by rw [e_]; rfl)⟩ : _ ∧ k_ ≠ go35))) (fun _ hk => hk.2) (.int .u8 (Go.bits .xor .u8 (rd t135 (ji32)) a4))) (fun _ h_ => h_.1))) hb); have n1_ := Aside0.mk (Kd.R_below (by (with_reducible repeat (first | apply Kd.R_alloc | apply Kd.R_drewN | apply Kd.R_drew)); exact HQ48.out) hb); have n2_ := Aside0.mk (below_step (by repeat (first | (with_reducible first | exact HB.out | apply below_alloc | apply pw_below_drewN | apply below_drew1 | refine below_set ?_ GB35.out) | exact HB.out)) hb); clear HO_11; clear HO137; clear HB; have HO_11 := n0_; have HO137 := n1_; have HB := n2_; clear n0_ n1_ n2_; (try clear hb); (try clear hb2); (try clear hk); (try clear hi); obtain ⟨Ao50, co50, eo50⟩ := Kd.R_slice HO_11.out; subst eo50) | (go_at_call 15; (with_reducible refine (wire_Crc.calls k2 _ _ x11_2 t141 _ ?side1 ?side2 A38.out).mono ?_); (case side1 => repeat (first | exact (Kd.R_reads' HO_11.out).2.2 | (with_reducible refine Kd.C_alloc ?_ _) | (with_reducible refine Kd.C_drewN ?_ _) | (with_reducible refine Kd.C_drew ?_))); (case side2 => exact (Kd.R_reads' HO_11.out).2.1); rintro e w' ⟨rfl, ⟨nd, rfl⟩⟩) | (go_at_call 15; (with_reducible refine (wire_Crc.calls k2 _ _ l0 t142 _ ?side1 ?side2 A39.out).mono ?_); (case side1 => repeat (first | exact (Kd.C_below HR0.out (by repeat (first | (with_reducible first | exact HB.out | apply below_alloc | apply pw_below_drewN | apply below_drew1) | exact HB.out))) | (with_reducible refine Kd.C_alloc ?_ _) | (with_reducible refine Kd.C_drewN ?_ _) | (with_reducible refine Kd.C_drew ?_))); (case side2 => exact HC0.out); rintro e w' ⟨rfl, ⟨nd, rfl⟩⟩) | (go_at_call 15; (with_reducible refine (wire_Crc.calls k2 _ _ l1 t143 _ ?side1 ?side2 A40.out).mono ?_); (case side1 => repeat (first | exact (Kd.C_below HR1.out (by repeat (first | (with_reducible first | exact HB.out | apply below_alloc | apply pw_below_drewN | apply below_drew1) | exact HB.out))) | (with_reducible refine Kd.C_alloc ?_ _) | (with_reducible refine Kd.C_drewN ?_ _) | (with_reducible refine Kd.C_drew ?_))); (case side2 => exact HC1.out); rintro e w' ⟨rfl, ⟨nd, rfl⟩⟩) | (go_at_call 15; (with_reducible refine (wire_Crc.calls k2 _ _ l2 t144 _ ?side1 ?side2 A41.out).mono ?_); (case side1 => repeat (first | exact (Kd.C_below HR2.out (by repeat (first | (with_reducible first | exact HB.out | apply below_alloc | apply pw_below_drewN | apply below_drew1) | exact HB.out))) | (with_reducible refine Kd.C_alloc ?_ _) | (with_reducible refine Kd.C_drewN ?_ _) | (with_reducible refine Kd.C_drew ?_))); (case side2 => exact HC2.out); rintro e w' ⟨rfl, ⟨nd, rfl⟩⟩) | (go_at_call 15; refine calls_of_args (args' := #[.slice (some ⟨go35, 0, none⟩) y139.length co47]) (by first | (rw [show y139.length = t135.length from (Kd.R_reads' HO137.out).1.symm] <;> rfl) | rfl) ?_; (with_reducible refine (wire_Crc.calls k2 _ _ y139 t145 _ ?side1 ?side2 A43.out).mono ?_); (case side1 => repeat (first | exact (Kd.R_reads' HO137.out).2.2 | (with_reducible refine Kd.C_alloc ?_ _) | (with_reducible refine Kd.C_drewN ?_ _) | (with_reducible refine Kd.C_drew ?_))); (case side2 => rw [show y139.length = t135.length from (Kd.R_reads' HO137.out).1.symm]; exact (Kd.R_reads' HO137.out).2.1); rintro e w' ⟨rfl, ⟨nd, rfl⟩⟩) | (go_at_call 15; (with_reducible refine (wire_Crc.calls k2 _ _ l0 t146 _ ?side1 ?side2 A44.out).mono ?_); (case side1 => repeat (first | exact (Kd.C_below HR0.out (by repeat (first | (with_reducible first | exact HB.out | apply below_alloc | apply pw_below_drewN | apply below_drew1) | exact HB.out))) | (with_reducible refine Kd.C_alloc ?_ _) | (with_reducible refine Kd.C_drewN ?_ _) | (with_reducible refine Kd.C_drew ?_))); (case side2 => exact HC0.out); rintro e w' ⟨rfl, ⟨nd, rfl⟩⟩))
                              go_ret
                              exact ⟨by first | rfl | (simp [errW_none, errW_some] <;> rfl) | (simp only [← hji32]; first | rfl | (simp [errW_none, errW_some] <;> rfl)) | (simp [*, errW_none, errW_some] <;> rfl), by repeat (first | (with_reducible first | exact HB.out | apply below_alloc | apply pw_below_drewN | apply below_drew1) | exact HB.out)⟩
                            · rw [if_neg c42] at H
                              have c42b0 : (t141 == (Go.bits .xor .u32 (Go.bits .xor .u32 t142 t143) t144)) = false := beq_eq_false_iff_ne.mpr c42
                              have c42b1 : (t141 != (Go.bits .xor .u32 (Go.bits .xor .u32 t142 t143) t144)) = true := bne_iff_ne.mpr c42
                              exact absurd ((Option.some.inj H).trans hr_.out) (by simp)
                          · replace c37 := Bool.eq_false_iff.mpr c37
                            subst c37
                            have H1 : (some false) = some r := by rw [if_neg (show ¬ (false = true) by decide)] at H; exact H
                            clear H
                            have H := H1
                            clear H1
                            exact absurd ((Option.some.inj H).trans hr_.out) (by simp)
                        · rw [if_neg c34] at H
                          exact absurd H (by simp)
                      · rw [if_neg c33] at H
                        exact absurd H (by simp)
            · rw [if_neg c19] at H
              exact absurd H (by simp)
          · rw [if_neg c18] at H
            exact absurd H (by simp)
  · replace c7 := Bool.eq_false_iff.mpr c7
    subst c7
    have H1 : (some false) = some r := by rw [if_neg (show ¬ (false = true) by decide)] at H; exact H
    clear H
    have H := H1
    clear H1
    exact absurd ((Option.some.inj H).trans hr_.out) (by simp)

end Go.Proofs.Ytabljieejnhefaa.PB
