/- Texts of this claim, put together. -/
import Derived.Test.YtdklanenmihpdaaMRBb
set_option linter.unusedVariables false
set_option linter.unusedSimpArgs false
namespace Go.Proofs.Ytdklanenmihpdaa.PL
open Go.RowKit Go.Proofs.YtdklanenmihpdaaW.PrintWords Go.Proofs.YtdklanenmihpdaaW.PrintLast Go.Proofs.YtdklanenmihpdaaW.PrintMore
attribute [local go_sem] max2_int min2_int max_two min_two max_three min_three max_four min_four
open Go.Proofs.Ytdklanenmihpdaa.Hand
open Go.Proofs.Ytdklanenmihpdaa.PA
set_option linter.unusedVariables false
set_option linter.unusedSimpArgs false
mutual
def tiklaw15_RecBack.j0 : Nat → List Int → List Int → Int → Int → Int → Bool → Int → Int → Int → List Int → Option (Bool)
  | 0, _, _, _, _, _, _, _, _, _, _ => none
  | k + 1, x1, x2, x3, x4, x5, x59, x250000, x250001, x250002, x250003 => if x59 = true then ((tiklaw15_first.f k).bind fun t252 => (some t252)) else ((rec_Encode.f k x250000 x250001 x250002 x250003).bind fun bt253 => (if bt253.2 = 0 then (tiklaw15_RecBack.j1 k x1 x2 x3 x4 x5 bt253.1 (decide ((bt253.1.length : Int) < 10)) x250000 x250001 x250002 x250003) else (tiklaw15_RecBack.j1 k x1 x2 x3 x4 x5 bt253.1 true x250000 x250001 x250002 x250003)))
def tiklaw15_RecBack.j1 : Nat → List Int → List Int → Int → Int → Int → List Int → Bool → Int → Int → Int → List Int → Option (Bool)
  | 0, _, _, _, _, _, _, _, _, _, _, _ => none
  | k + 1, x1, x2, x3, x4, x5, x13, x72, x250000, x250001, x250002, x250003 => if x72 = true then (some false) else ((tikref_CopyBytes.f x1).bind fun t257 => (if t257.length + x13.length < 140737488355328 then ((some (t257 ++ x13 : List Int)).bind fun y260 => (if y260.length + x2.length < 140737488355328 then ((rec_Decode.f (y260 ++ x2) (x1.length : Int)).bind fun bt266 => (if (x13.length : Int) = 0 then (none) else (if 0 ≤ (Int.tmod x3 (x13.length : Int)) then (if (Int.tmod x3 (x13.length : Int)) ≤ (x13.length : Int) then ((rec_Decode.f (x13.take ((Int.tmod x3 (x13.length : Int)) : Int).toNat) 0).bind fun bt279 => (if bt266.2.2.2.2.2 = 0 then ((rec_Same.f x250000 x250001 x250002 x250003 bt266.1 bt266.2.1 bt266.2.2.1 bt266.2.2.2.1).bind fun t288 => (if t288 = true then (if bt266.2.2.2.2.1 = (wrap64 ((x1.length : Int) + (x13.length : Int))) then (tiklaw15_RecBack.j2 k x4 x5 x13 (bt279.2.2.2.2.2 != 3) x250000 x250001 x250002 x250003) else (tiklaw15_RecBack.j2 k x4 x5 x13 true x250000 x250001 x250002 x250003)) else (tiklaw15_RecBack.j2 k x4 x5 x13 true x250000 x250001 x250002 x250003))) else (tiklaw15_RecBack.j2 k x4 x5 x13 true x250000 x250001 x250002 x250003))) else (none)) else (none)))) else (none))) else (none)))
def tiklaw15_RecBack.j2 : Nat → Int → Int → List Int → Bool → Int → Int → Int → List Int → Option (Bool)
  | 0, _, _, _, _, _, _, _, _ => none
  | k + 1, x4, x5, x13, x118, x250000, x250001, x250002, x250003 => if x118 = true then (some false) else ((tikref_CopyBytes.f x13).bind fun t289 => (if (wrap64 ((x13.length : Int) - 2)) = 0 then (none) else (if 0 ≤ (wrap64 (2 + (Int.tmod x4 (wrap64 ((x13.length : Int) - 2))))) then (if (wrap64 (2 + (Int.tmod x4 (wrap64 ((x13.length : Int) - 2))))) < (t289.length : Int) then ((some (t289.set ((wrap64 (2 + (Int.tmod x4 (wrap64 ((x13.length : Int) - 2))))) : Int).toNat (Go.bits .xor .u8 (rd t289 (wrap64 (2 + (Int.tmod x4 (wrap64 ((x13.length : Int) - 2)))))) x5) : List Int)).bind fun y293 => ((rec_Decode.f y293 0).bind fun bt294 => (if bt294.2.2.2.2.2 = 0 then ((tiklaw15_first.f k).bind fun t304 => (if t304 = true then (if bt294.2.2.2.2.1 ≤ (t289.length : Int) then ((rec_Same.f bt294.1 bt294.2.1 bt294.2.2.1 bt294.2.2.2.1 x250000 x250001 x250002 x250003).bind fun t305 => (if t305 = true then (some false) else (if 6 ≤ bt294.2.2.2.2.1 then ((tikref2_Crc.f k ((y293.take (bt294.2.2.2.2.1 : Int).toNat).drop 6)).bind fun t310 => (if 2 ≤ 6 then (if 6 ≤ (t289.length : Int) then ((tikref2_Big.f k ((y293.take 6).drop 2)).bind fun t315 => (some (t310 == ((t315) % 4294967296)))) else (none)) else (none))) else (none)))) else (some false)) else (some false))) else ((tiklaw15_first.f k).bind fun t303 => (some t303))))) else (none)) else (none))))
end
def tiklaw15_RecBack.f (k : Nat) (a0_0 : Int) (a0_1 : Int) (a0_2 : Int) (l0_3 : List Int) (l1 : List Int) (l2 : List Int) (a3 : Int) (a4 : Int) (a5 : Int) : Option (Bool) := (tiklaw15_first.f k).bind fun t250 => (if t250 = true then (if (l0_3.length : Int) > 3000 then (tiklaw15_RecBack.j0 k l1 l2 a3 a4 a5 true a0_0 a0_1 a0_2 l0_3) else (if (l1.length : Int) > 3000 then (tiklaw15_RecBack.j0 k l1 l2 a3 a4 a5 true a0_0 a0_1 a0_2 l0_3) else (if (l2.length : Int) > 3000 then (tiklaw15_RecBack.j0 k l1 l2 a3 a4 a5 true a0_0 a0_1 a0_2 l0_3) else (if a3 < 0 then (tiklaw15_RecBack.j0 k l1 l2 a3 a4 a5 true a0_0 a0_1 a0_2 l0_3) else (if a4 < 0 then (tiklaw15_RecBack.j0 k l1 l2 a3 a4 a5 true a0_0 a0_1 a0_2 l0_3) else (if a5 = 0 then (tiklaw15_RecBack.j0 k l1 l2 a3 a4 a5 true a0_0 a0_1 a0_2 l0_3) else ((rec_May.f a0_0 a0_1 a0_2 l0_3).bind fun t251 => (tiklaw15_RecBack.j0 k l1 l2 a3 a4 a5 (!t251) a0_0 a0_1 a0_2 l0_3)))))))) else (some false))
def tiklaw15_RecBack.T19 : Bool × List (List Nat × List Nat) := (true, [([], []), ([0, 0], [0]), ([1], [1]), ([1], [1]), ([3, 1], [1, 3]), ([2, 4, 1], [1, 2, 4]), ([1, 5], [1, 5]), ([6, 1], [6]), ([7], [7]), ([7], [7]), ([8, 9, 7, 7], [7, 8, 9]), ([10, 7], [7, 10]), ([7, 11], [7, 11]), ([12, 10], [12]), ([13], [13]), ([13], [13]), ([14, 15, 13], [13, 14, 15]), ([16, 13, 13], [13, 16]), ([13], [13]), ([18, 13], [13, 18]), ([19, 17, 13], [13, 19]), ([20, 13], [13, 20]), ([17, 21, 13], [13, 17, 21]), ([13, 22], [13, 22]), ([23, 20, 0, 1, 2, 3, 4, 5, 6, 7, 8, 9, 10, 11, 12, 13, 14, 15, 16, 17, 18, 19, 20, 21, 22, 23], [23])])
def tiklaw15_RecBack.B19 : List Nat := [0, 1, 3, 3, 11, 31, 63, 127, 255, 255, 1023, 2047, 4095, 8191, 16383, 16383, 65535, 131071, 16383, 278527, 1048575, 2097151, 4194303, 8388607, 16777215]
theorem tiklaw15_RecBack.tab19 : rtab .any (opsOf Try.f4 19) = tiklaw15_RecBack.T19 := by kernel_rfl
theorem tiklaw15_RecBack.bits19 : waitsOk tiklaw15_RecBack.T19.2 tiklaw15_RecBack.B19 = true := by kernel_rfl
set_option maxHeartbeats 8000000 in
set_option maxRecDepth 100000 in
theorem tiklaw15_RecBack.calls (k : Nat) (a0_0 : Int) (a0_1 : Int) (a0_2 : Int) (A0_3 : Option Addr) (c0_3 : Nat) (l0_3 : List Int) (A1 : Option Addr) (c1 : Nat) (l1 : List Int) (A2 : Option Addr) (c2 : Nat) (l2 : List Int) (a3 : Int) (a4 : Int) (a5 : Int) (r : Bool) (w : World) (hr0_3 : Kd.C (Kd.int .u8) w A0_3 l0_3.length l0_3) (hc0_3 : l0_3.length ≤ c0_3) (hr1 : Kd.C (Kd.int .u8) w A1 l1.length l1) (hc1 : l1.length ≤ c1) (hr2 : Kd.C (Kd.int .u8) w A2 l2.length l2) (hc2 : l2.length ≤ c2) (hr_ : Aside0 (r = true)) (h : tiklaw15_RecBack.f k a0_0 a0_1 a0_2 l0_3 l1 l2 a3 a4 a5 = some r) :
    Calls Try.prog 4 #[.agg #[.int .i64 a0_0, .int .u64 a0_1, .int .u64 a0_2, .slice A0_3 l0_3.length c0_3], .slice A1 l1.length c1, .slice A2 l2.length c2, .int .i64 a3, .int .i64 a4, .int .u8 a5] w fun e w' => e = .returned (.bool r) ∧ Below w.heap.size w w' := by
  have hu25 := Try.underlying25
  have HR0_3 := Aside0.mk hr0_3
  have HC0_3 := Aside0.mk hc0_3
  clear hr0_3 hc0_3
  have HR1 := Aside0.mk hr1
  have HC1 := Aside0.mk hc1
  clear hr1 hc1
  have HR2 := Aside0.mk hr2
  have HC2 := Aside0.mk hc2
  clear hr2 hc2
  have HB := Aside0.mk (Below.refl w.heap.size w)
  have H : ((tiklaw15_first.f k).bind fun t250 => (if t250 = true then (if (l0_3.length : Int) > 3000 then (tiklaw15_RecBack.j0 k l1 l2 a3 a4 a5 true a0_0 a0_1 a0_2 l0_3) else (if (l1.length : Int) > 3000 then (tiklaw15_RecBack.j0 k l1 l2 a3 a4 a5 true a0_0 a0_1 a0_2 l0_3) else (if (l2.length : Int) > 3000 then (tiklaw15_RecBack.j0 k l1 l2 a3 a4 a5 true a0_0 a0_1 a0_2 l0_3) else (if a3 < 0 then (tiklaw15_RecBack.j0 k l1 l2 a3 a4 a5 true a0_0 a0_1 a0_2 l0_3) else (if a4 < 0 then (tiklaw15_RecBack.j0 k l1 l2 a3 a4 a5 true a0_0 a0_1 a0_2 l0_3) else (if a5 = 0 then (tiklaw15_RecBack.j0 k l1 l2 a3 a4 a5 true a0_0 a0_1 a0_2 l0_3) else ((rec_May.f a0_0 a0_1 a0_2 l0_3).bind fun t251 => (tiklaw15_RecBack.j0 k l1 l2 a3 a4 a5 (!t251) a0_0 a0_1 a0_2 l0_3)))))))) else (some false))) = some r := h
  clear h
  replace H := Option.bind_eq_some_iff.mp H
  obtain ⟨t250, A70, H⟩ := H
  replace H : (if t250 = true then (if (l0_3.length : Int) > 3000 then (tiklaw15_RecBack.j0 k l1 l2 a3 a4 a5 true a0_0 a0_1 a0_2 l0_3) else (if (l1.length : Int) > 3000 then (tiklaw15_RecBack.j0 k l1 l2 a3 a4 a5 true a0_0 a0_1 a0_2 l0_3) else (if (l2.length : Int) > 3000 then (tiklaw15_RecBack.j0 k l1 l2 a3 a4 a5 true a0_0 a0_1 a0_2 l0_3) else (if a3 < 0 then (tiklaw15_RecBack.j0 k l1 l2 a3 a4 a5 true a0_0 a0_1 a0_2 l0_3) else (if a4 < 0 then (tiklaw15_RecBack.j0 k l1 l2 a3 a4 a5 true a0_0 a0_1 a0_2 l0_3) else (if a5 = 0 then (tiklaw15_RecBack.j0 k l1 l2 a3 a4 a5 true a0_0 a0_1 a0_2 l0_3) else ((rec_May.f a0_0 a0_1 a0_2 l0_3).bind fun t251 => (tiklaw15_RecBack.j0 k l1 l2 a3 a4 a5 (!t251) a0_0 a0_1 a0_2 l0_3)))))))) else (some false)) = some r := H
  have A7 := Aside0.mk A70
  clear A70
  by_cases c8 : t250 = true
  · subst c8
    have H1 : (if (l0_3.length : Int) > 3000 then (tiklaw15_RecBack.j0 k l1 l2 a3 a4 a5 true a0_0 a0_1 a0_2 l0_3) else (if (l1.length : Int) > 3000 then (tiklaw15_RecBack.j0 k l1 l2 a3 a4 a5 true a0_0 a0_1 a0_2 l0_3) else (if (l2.length : Int) > 3000 then (tiklaw15_RecBack.j0 k l1 l2 a3 a4 a5 true a0_0 a0_1 a0_2 l0_3) else (if a3 < 0 then (tiklaw15_RecBack.j0 k l1 l2 a3 a4 a5 true a0_0 a0_1 a0_2 l0_3) else (if a4 < 0 then (tiklaw15_RecBack.j0 k l1 l2 a3 a4 a5 true a0_0 a0_1 a0_2 l0_3) else (if a5 = 0 then (tiklaw15_RecBack.j0 k l1 l2 a3 a4 a5 true a0_0 a0_1 a0_2 l0_3) else ((rec_May.f a0_0 a0_1 a0_2 l0_3).bind fun t251 => (tiklaw15_RecBack.j0 k l1 l2 a3 a4 a5 (!t251) a0_0 a0_1 a0_2 l0_3)))))))) = some r := by rw [if_pos rfl] at H; exact H
    clear H
    have H := H1
    clear H1
    have HC9 := Aside0.mk H
    clear H
    go_enter Try.func4, Try.ntmps4
    go_upto_region 3 with (first | ((with_reducible refine gate_dst (N := 6) rfl ?_); (try (refine gate_guard (by rfl) ?_; dsimp only)); refine box_event ?hg (N := 6) ?hd (cs := #[.int .i64 a0_0, .int .u64 a0_1, .int .u64 a0_2, .slice A0_3 l0_3.length c0_3]) (t := 25) ?hr ?_; (case hd => rfl); (case hg => rfl); (case hr => first | (go_simp; done) | (go_simp; rfl)); intro gb249 hg w10 hbox hb; have n0_ := Aside0.mk (below_step (by repeat (first | (with_reducible first | exact HB.out | apply below_alloc | apply pw_below_drewN | apply below_drew1) | exact HB.out)) hb); have n1_ := Aside0.mk (hbox); have n2_ := Aside0.mk ((by rw [hg]; exact (below_size (by repeat (first | (with_reducible first | exact HB.out | apply below_alloc | apply pw_below_drewN | apply below_drew1) | exact HB.out))) : w.heap.size ≤ gb249)); have n3_ := Aside0.mk ((by rw [hg]; exact (below_size (by repeat (first | (with_reducible first | exact HB.out | apply below_alloc | apply pw_below_drewN | apply below_drew1) | exact HB.out))) : w.heap.size ≤ gb249)); clear HB; have HB := n0_; have BK249 := n1_; have GW249 := n2_; have GE249 := n3_; clear n0_ n1_ n2_ n3_; clear hb hbox hg) | ((with_reducible refine gate_callee (f := 10) rfl ?_); refine goesL_ (some 27) rfl rfl Try.func10 (by kernel_rfl) rfl #[] rfl (by (try simp only [List.map_toArray, List.map_cons, List.map_nil]); first | done | rfl | (simp only [List.length_drop, List.length_take]; rfl)) ?_; (with_reducible refine (tiklaw15_first.calls k  true _ A7.out).mono ?_); rintro e w11 ⟨rfl, hb⟩; refine ⟨_, rfl, ?_⟩; have n0_ := Aside0.mk (blk_below (g := gb249) (o := .cells #[.int .i64 a0_0, .int .u64 a0_1, .int .u64 a0_2, .slice A0_3 l0_3.length c0_3] 25 (0, 0)) (by (with_reducible repeat (first | refine blk_drewN ?_ _ | refine blk_drew ?_ | refine blk_alloc ?_ _)); exact BK249.out) hb); have n1_ := Aside0.mk (below_step (by repeat (first | (with_reducible first | exact HB.out | apply below_alloc | apply pw_below_drewN | apply below_drew1 | refine below_set ?_ GE249.out) | exact HB.out)) hb); clear BK249; clear HB; have BK249 := n0_; have HB := n1_; clear n0_ n1_; (try clear hb); (try clear hb2); (try clear hk); (try clear hi)))
    (try simp only [Act.put, List.setIfInBounds_toArray, List.set_cons_zero, List.set_cons_succ])
    go_cut [59] (fun v59 wc => ∃ (kq : Nat) (x59_8 : Bool), v59 = .bool x59_8 ∧ Aside0 (tiklaw15_RecBack.j0 kq l1 l2 a3 a4 a5 x59_8 a0_0 a0_1 a0_2 l0_3 = some r) ∧ Aside0 (kq ≤ k) ∧ Aside0 (wc.heap[gb249]? = some (.cells #[.int .i64 a0_0, .int .u64 a0_1, .int .u64 a0_2, (.slice A0_3 l0_3.length c0_3)] 25 (0, 0))) ∧ Aside0 (Below w.heap.size w wc))
    case first =>
      have H := HC9.out
      clear HC9
      by_cases c12 : (l0_3.length : Int) > 3000
      · rw [if_pos c12] at H
        have c12b0 : decide (3000 < (l0_3.length : Int)) = true := decide_eq_true c12
        have c12b1 : decide (3000 < l0_3.length) = true := decide_eq_true (by omega)
        clear c12
        (first | rw [c12b0] | (simp only [i64_w, i32_w]; rw [c12b0]) | skip)
        have H' := Aside0.mk H
        clear H
        have hcz13_0 : w11.cell? ⟨gb249, 0, none⟩ = some (.int .i64 a0_0) := (blk_cell BK249.out 0).trans rfl
        have hcz13_1 : w11.cell? ⟨gb249, 1, none⟩ = some (.int .u64 a0_1) := (blk_cell BK249.out 1).trans rfl
        have hcz13_2 : w11.cell? ⟨gb249, 2, none⟩ = some (.int .u64 a0_2) := (blk_cell BK249.out 2).trans rfl
        have hcz13_3 : w11.cell? ⟨gb249, 3, none⟩ = some (.slice A0_3 l0_3.length c0_3) := (blk_cell BK249.out 3).trans rfl
        have hfz13_0 := blk_frozen BK249.out 0
        have hfz13_1 := blk_frozen BK249.out 1
        have hfz13_2 := blk_frozen BK249.out 2
        have hfz13_3 := blk_frozen BK249.out 3
        go_wp2
        go_meet
        case rel => exact ⟨_, (true), (by first | rfl | (simp; done) | (simp [*]; done)), H', ⟨by first | omega | exact Nat.le_refl _⟩, ⟨by (with_reducible repeat (first | refine blk_drewN ?_ _ | refine blk_drew ?_ | refine blk_alloc ?_ _)); exact BK249.out⟩, ⟨by repeat (first | (with_reducible first | exact HB.out | apply below_alloc | apply pw_below_drewN | apply below_drew1 | refine below_set ?_ GE249.out) | exact HB.out)⟩⟩
      · rw [if_neg c12] at H
        have c12b0 : decide (3000 < (l0_3.length : Int)) = false := decide_eq_false c12
        have c12b1 : decide (3000 < l0_3.length) = false := decide_eq_false (by omega)
        clear c12
        (first | rw [c12b0] | (simp only [i64_w, i32_w]; rw [c12b0]) | skip)
        by_cases c14 : (l1.length : Int) > 3000
        · rw [if_pos c14] at H
          have c14b0 : decide (3000 < (l1.length : Int)) = true := decide_eq_true c14
          have c14b1 : decide (3000 < l1.length) = true := decide_eq_true (by omega)
          clear c14
          have H' := Aside0.mk H
          clear H
          have hcz15_0 : w11.cell? ⟨gb249, 0, none⟩ = some (.int .i64 a0_0) := (blk_cell BK249.out 0).trans rfl
          have hcz15_1 : w11.cell? ⟨gb249, 1, none⟩ = some (.int .u64 a0_1) := (blk_cell BK249.out 1).trans rfl
          have hcz15_2 : w11.cell? ⟨gb249, 2, none⟩ = some (.int .u64 a0_2) := (blk_cell BK249.out 2).trans rfl
          have hcz15_3 : w11.cell? ⟨gb249, 3, none⟩ = some (.slice A0_3 l0_3.length c0_3) := (blk_cell BK249.out 3).trans rfl
          have hfz15_0 := blk_frozen BK249.out 0
          have hfz15_1 := blk_frozen BK249.out 1
          have hfz15_2 := blk_frozen BK249.out 2
          have hfz15_3 := blk_frozen BK249.out 3
          go_wp2
          go_meet
          case rel => exact ⟨_, (true), (by first | rfl | (simp; done) | (simp [*]; done)), H', ⟨by first | omega | exact Nat.le_refl _⟩, ⟨by (with_reducible repeat (first | refine blk_drewN ?_ _ | refine blk_drew ?_ | refine blk_alloc ?_ _)); exact BK249.out⟩, ⟨by repeat (first | (with_reducible first | exact HB.out | apply below_alloc | apply pw_below_drewN | apply below_drew1 | refine below_set ?_ GE249.out) | exact HB.out)⟩⟩
        · rw [if_neg c14] at H
          have c14b0 : decide (3000 < (l1.length : Int)) = false := decide_eq_false c14
          have c14b1 : decide (3000 < l1.length) = false := decide_eq_false (by omega)
          clear c14
          by_cases c16 : (l2.length : Int) > 3000
          · rw [if_pos c16] at H
            have c16b0 : decide (3000 < (l2.length : Int)) = true := decide_eq_true c16
            have c16b1 : decide (3000 < l2.length) = true := decide_eq_true (by omega)
            clear c16
            have H' := Aside0.mk H
            clear H
            have hcz17_0 : w11.cell? ⟨gb249, 0, none⟩ = some (.int .i64 a0_0) := (blk_cell BK249.out 0).trans rfl
            have hcz17_1 : w11.cell? ⟨gb249, 1, none⟩ = some (.int .u64 a0_1) := (blk_cell BK249.out 1).trans rfl
            have hcz17_2 : w11.cell? ⟨gb249, 2, none⟩ = some (.int .u64 a0_2) := (blk_cell BK249.out 2).trans rfl
            have hcz17_3 : w11.cell? ⟨gb249, 3, none⟩ = some (.slice A0_3 l0_3.length c0_3) := (blk_cell BK249.out 3).trans rfl
            have hfz17_0 := blk_frozen BK249.out 0
            have hfz17_1 := blk_frozen BK249.out 1
            have hfz17_2 := blk_frozen BK249.out 2
            have hfz17_3 := blk_frozen BK249.out 3
            go_wp2
            go_meet
            case rel => exact ⟨_, (true), (by first | rfl | (simp; done) | (simp [*]; done)), H', ⟨by first | omega | exact Nat.le_refl _⟩, ⟨by (with_reducible repeat (first | refine blk_drewN ?_ _ | refine blk_drew ?_ | refine blk_alloc ?_ _)); exact BK249.out⟩, ⟨by repeat (first | (with_reducible first | exact HB.out | apply below_alloc | apply pw_below_drewN | apply below_drew1 | refine below_set ?_ GE249.out) | exact HB.out)⟩⟩
          · rw [if_neg c16] at H
            have c16b0 : decide (3000 < (l2.length : Int)) = false := decide_eq_false c16
            have c16b1 : decide (3000 < l2.length) = false := decide_eq_false (by omega)
            clear c16
            by_cases c18 : a3 < 0
            · rw [if_pos c18] at H
              have c18b0 : decide (a3 < 0) = true := decide_eq_true c18
              clear c18
              have H' := Aside0.mk H
              clear H
              have hcz19_0 : w11.cell? ⟨gb249, 0, none⟩ = some (.int .i64 a0_0) := (blk_cell BK249.out 0).trans rfl
              have hcz19_1 : w11.cell? ⟨gb249, 1, none⟩ = some (.int .u64 a0_1) := (blk_cell BK249.out 1).trans rfl
              have hcz19_2 : w11.cell? ⟨gb249, 2, none⟩ = some (.int .u64 a0_2) := (blk_cell BK249.out 2).trans rfl
              have hcz19_3 : w11.cell? ⟨gb249, 3, none⟩ = some (.slice A0_3 l0_3.length c0_3) := (blk_cell BK249.out 3).trans rfl
              have hfz19_0 := blk_frozen BK249.out 0
              have hfz19_1 := blk_frozen BK249.out 1
              have hfz19_2 := blk_frozen BK249.out 2
              have hfz19_3 := blk_frozen BK249.out 3
              go_wp2
              go_meet
              case rel => exact ⟨_, (true), (by first | rfl | (simp; done) | (simp [*]; done)), H', ⟨by first | omega | exact Nat.le_refl _⟩, ⟨by (with_reducible repeat (first | refine blk_drewN ?_ _ | refine blk_drew ?_ | refine blk_alloc ?_ _)); exact BK249.out⟩, ⟨by repeat (first | (with_reducible first | exact HB.out | apply below_alloc | apply pw_below_drewN | apply below_drew1 | refine below_set ?_ GE249.out) | exact HB.out)⟩⟩
            · rw [if_neg c18] at H
              have c18b0 : decide (a3 < 0) = false := decide_eq_false c18
              clear c18
              by_cases c20 : a4 < 0
              · rw [if_pos c20] at H
                have c20b0 : decide (a4 < 0) = true := decide_eq_true c20
                clear c20
                have H' := Aside0.mk H
                clear H
                have hcz21_0 : w11.cell? ⟨gb249, 0, none⟩ = some (.int .i64 a0_0) := (blk_cell BK249.out 0).trans rfl
                have hcz21_1 : w11.cell? ⟨gb249, 1, none⟩ = some (.int .u64 a0_1) := (blk_cell BK249.out 1).trans rfl
                have hcz21_2 : w11.cell? ⟨gb249, 2, none⟩ = some (.int .u64 a0_2) := (blk_cell BK249.out 2).trans rfl
                have hcz21_3 : w11.cell? ⟨gb249, 3, none⟩ = some (.slice A0_3 l0_3.length c0_3) := (blk_cell BK249.out 3).trans rfl
                have hfz21_0 := blk_frozen BK249.out 0
                have hfz21_1 := blk_frozen BK249.out 1
                have hfz21_2 := blk_frozen BK249.out 2
                have hfz21_3 := blk_frozen BK249.out 3
                go_wp2
                go_meet
                case rel => exact ⟨_, (true), (by first | rfl | (simp; done) | (simp [*]; done)), H', ⟨by first | omega | exact Nat.le_refl _⟩, ⟨by (with_reducible repeat (first | refine blk_drewN ?_ _ | refine blk_drew ?_ | refine blk_alloc ?_ _)); exact BK249.out⟩, ⟨by repeat (first | (with_reducible first | exact HB.out | apply below_alloc | apply pw_below_drewN | apply below_drew1 | refine below_set ?_ GE249.out) | exact HB.out)⟩⟩
              · rw [if_neg c20] at H
                have c20b0 : decide (a4 < 0) = false := decide_eq_false c20
                clear c20
                by_cases c22 : a5 = 0
                · rw [if_pos c22] at H
                  have c22b0 : (a5 == 0) = true := beq_iff_eq.mpr c22
                  have c22b1 : (a5 != 0) = false := bne_eq_false_iff_eq.mpr c22
                  clear c22
                  have H' := Aside0.mk H
                  clear H
                  have hcz23_0 : w11.cell? ⟨gb249, 0, none⟩ = some (.int .i64 a0_0) := (blk_cell BK249.out 0).trans rfl
                  have hcz23_1 : w11.cell? ⟨gb249, 1, none⟩ = some (.int .u64 a0_1) := (blk_cell BK249.out 1).trans rfl
                  have hcz23_2 : w11.cell? ⟨gb249, 2, none⟩ = some (.int .u64 a0_2) := (blk_cell BK249.out 2).trans rfl
                  have hcz23_3 : w11.cell? ⟨gb249, 3, none⟩ = some (.slice A0_3 l0_3.length c0_3) := (blk_cell BK249.out 3).trans rfl
                  have hfz23_0 := blk_frozen BK249.out 0
                  have hfz23_1 := blk_frozen BK249.out 1
                  have hfz23_2 := blk_frozen BK249.out 2
                  have hfz23_3 := blk_frozen BK249.out 3
                  go_wp2
                  go_meet
                  case rel => exact ⟨_, (true), (by first | rfl | (simp; done) | (simp [*]; done)), H', ⟨by first | omega | exact Nat.le_refl _⟩, ⟨by (with_reducible repeat (first | refine blk_drewN ?_ _ | refine blk_drew ?_ | refine blk_alloc ?_ _)); exact BK249.out⟩, ⟨by repeat (first | (with_reducible first | exact HB.out | apply below_alloc | apply pw_below_drewN | apply below_drew1 | refine below_set ?_ GE249.out) | exact HB.out)⟩⟩
                · rw [if_neg c22] at H
                  have c22b0 : (a5 == 0) = false := beq_eq_false_iff_ne.mpr c22
                  have c22b1 : (a5 != 0) = true := bne_iff_ne.mpr c22
                  replace H := Option.bind_eq_some_iff.mp H
                  obtain ⟨t251, A240, H⟩ := H
                  replace H : (tiklaw15_RecBack.j0 k l1 l2 a3 a4 a5 (!t251) a0_0 a0_1 a0_2 l0_3) = some r := H
                  have A24 := Aside0.mk A240
                  clear A240
                  have H' := Aside0.mk H
                  clear H
                  have hcz25_0 : w11.cell? ⟨gb249, 0, none⟩ = some (.int .i64 a0_0) := (blk_cell BK249.out 0).trans rfl
                  have hcz25_1 : w11.cell? ⟨gb249, 1, none⟩ = some (.int .u64 a0_1) := (blk_cell BK249.out 1).trans rfl
                  have hcz25_2 : w11.cell? ⟨gb249, 2, none⟩ = some (.int .u64 a0_2) := (blk_cell BK249.out 2).trans rfl
                  have hcz25_3 : w11.cell? ⟨gb249, 3, none⟩ = some (.slice A0_3 l0_3.length c0_3) := (blk_cell BK249.out 3).trans rfl
                  have hfz25_0 := blk_frozen BK249.out 0
                  have hfz25_1 := blk_frozen BK249.out 1
                  have hfz25_2 := blk_frozen BK249.out 2
                  have hfz25_3 := blk_frozen BK249.out 3
                  go_wp2_with (first | (go_at_call 18; (with_reducible refine (rec_May.calls a0_0 a0_1 a0_2 _ _ l0_3 t251 _ ?side1 ?side2 A24.out).mono ?_); (case side1 => repeat (first | exact (Kd.C_below HR0_3.out HB.out) | (with_reducible refine Kd.C_alloc ?_ _) | (with_reducible refine Kd.C_drewN ?_ _) | (with_reducible refine Kd.C_drew ?_))); (case side2 => exact HC0_3.out); rintro e w26 ⟨rfl, hb⟩; have n0_ := Aside0.mk (blk_below (g := gb249) (o := .cells #[.int .i64 a0_0, .int .u64 a0_1, .int .u64 a0_2, .slice A0_3 l0_3.length c0_3] 25 (0, 0)) (by (with_reducible repeat (first | refine blk_drewN ?_ _ | refine blk_drew ?_ | refine blk_alloc ?_ _)); exact BK249.out) hb); have n1_ := Aside0.mk (below_step (by repeat (first | (with_reducible first | exact HB.out | apply below_alloc | apply pw_below_drewN | apply below_drew1 | refine below_set ?_ GE249.out) | exact HB.out)) hb); clear BK249; clear HB; have BK249 := n0_; have HB := n1_; clear n0_ n1_; (try clear hb); (try clear hb2); (try clear hk); (try clear hi)))
                  go_meet
                  case rel => exact ⟨_, (!t251), (by first | rfl | (simp; done) | (simp [*]; done)), H', ⟨by first | omega | exact Nat.le_refl _⟩, ⟨by (with_reducible repeat (first | refine blk_drewN ?_ _ | refine blk_drew ?_ | refine blk_alloc ?_ _)); exact BK249.out⟩, ⟨by repeat (first | (with_reducible first | exact HB.out | apply below_alloc | apply pw_below_drewN | apply below_drew1 | refine below_set ?_ GE249.out) | exact HB.out)⟩⟩
    case rest =>
      clear HC9
      try clear c1
      try clear c2
      try clear p2
      try clear c4
      try clear c8
      try clear c10
      try clear c12
      try clear c12b0
      try clear c12b1
      try clear c14
      try clear c14b0
      try clear c14b1
      try clear c16
      try clear c16b0
      try clear c16b1
      try clear c18
      try clear c18b0
      try clear c20
      try clear c20b0
      try clear c22
      try clear c22b0
      try clear c22b1
      try clear hcz13_0
      try clear hcz13_1
      try clear hcz13_2
      try clear hcz13_3
      try clear hcz15_0
      try clear hcz15_1
      try clear hcz15_2
      try clear hcz15_3
      try clear hcz17_0
      try clear hcz17_1
      try clear hcz17_2
      try clear hcz17_3
      try clear hcz19_0
      try clear hcz19_1
      try clear hcz19_2
      try clear hcz19_3
      try clear hcz21_0
      try clear hcz21_1
      try clear hcz21_2
      try clear hcz21_3
      try clear hcz23_0
      try clear hcz23_1
      try clear hcz23_2
      try clear hcz23_3
      try clear hcz25_0
      try clear hcz25_1
      try clear hcz25_2
      try clear hcz25_3
      try clear hfz13_0
      try clear hfz13_1
      try clear hfz13_2
      try clear hfz13_3
      try clear hfz15_0
      try clear hfz15_1
      try clear hfz15_2
      try clear hfz15_3
      try clear hfz17_0
      try clear hfz17_1
      try clear hfz17_2
      try clear hfz17_3
      try clear hfz19_0
      try clear hfz19_1
      try clear hfz19_2
      try clear hfz19_3
      try clear hfz21_0
      try clear hfz21_1
      try clear hfz21_2
      try clear hfz21_3
      try clear hfz23_0
      try clear hfz23_1
      try clear hfz23_2
      try clear hfz23_3
      try clear hfz25_0
      try clear hfz25_1
      try clear hfz25_2
      try clear hfz25_3
      obtain ⟨kq, x59_8, rfl, HA, HJ8, BK249, HB⟩ := hcut
      cases kq with
      | zero => exact absurd HA.out (by simp [tiklaw15_RecBack.j0])
      | succ kj8 =>
        have H := HA.out
        clear HA
        simp only [tiklaw15_RecBack.j0] at H
        by_cases c27 : x59_8 = true
        · subst c27
          have H1 : ((tiklaw15_first.f kj8).bind fun t252 => (some t252)) = some r := by rw [if_pos rfl] at H; exact H
          clear H
          have H := H1
          clear H1
          replace H := Option.bind_eq_some_iff.mp H
          obtain ⟨t252, A280, H⟩ := H
          replace H : (some t252) = some r := H
          have A28 := Aside0.mk A280
          clear A280
          obtain rfl := Option.some.inj H
          go_wp2_with (first | ((with_reducible refine gate_callee (f := 10) rfl ?_); refine goesL_ (some 60) rfl rfl Try.func10 (by kernel_rfl) rfl #[] rfl (by (try simp only [List.map_toArray, List.map_cons, List.map_nil]); first | done | rfl | (simp only [List.length_drop, List.length_take]; rfl)) ?_; (with_reducible refine (tiklaw15_first.calls kj8  t252 _ A28.out).mono ?_); rintro e w29 ⟨rfl, hb⟩; refine ⟨_, rfl, ?_⟩; have n0_ := Aside0.mk (blk_below (g := gb249) (o := .cells #[.int .i64 a0_0, .int .u64 a0_1, .int .u64 a0_2, .slice A0_3 l0_3.length c0_3] 25 (0, 0)) (by (with_reducible repeat (first | refine blk_drewN ?_ _ | refine blk_drew ?_ | refine blk_alloc ?_ _)); exact BK249.out) hb); have n1_ := Aside0.mk (below_step (by repeat (first | (with_reducible first | exact HB.out | apply below_alloc | apply pw_below_drewN | apply below_drew1 | refine below_set ?_ GE249.out) | exact HB.out)) hb); clear BK249; clear HB; have BK249 := n0_; have HB := n1_; clear n0_ n1_; (try clear hb); (try clear hb2); (try clear hk); (try clear hi)))
          go_ret
          exact ⟨by first | rfl | (simp [errW_none, errW_some] <;> rfl) | (simp [*, errW_none, errW_some] <;> rfl), by repeat (first | (with_reducible first | exact HB.out | apply below_alloc | apply pw_below_drewN | apply below_drew1 | refine below_set ?_ GE249.out) | exact HB.out)⟩
        · replace c27 := Bool.eq_false_iff.mpr c27
          subst c27
          have H1 : ((rec_Encode.f kj8 a0_0 a0_1 a0_2 l0_3).bind fun bt253 => (if bt253.2 = 0 then (tiklaw15_RecBack.j1 kj8 l1 l2 a3 a4 a5 bt253.1 (decide ((bt253.1.length : Int) < 10)) a0_0 a0_1 a0_2 l0_3) else (tiklaw15_RecBack.j1 kj8 l1 l2 a3 a4 a5 bt253.1 true a0_0 a0_1 a0_2 l0_3))) = some r := by rw [if_neg (show ¬ (false = true) by decide)] at H; exact H
          clear H
          have H := H1
          clear H1
          replace H := Option.bind_eq_some_iff.mp H
          obtain ⟨⟨t253, t256⟩, A300, H⟩ := H
          replace H : (if t256 = 0 then (tiklaw15_RecBack.j1 kj8 l1 l2 a3 a4 a5 t253 (decide ((t253.length : Int) < 10)) a0_0 a0_1 a0_2 l0_3) else (tiklaw15_RecBack.j1 kj8 l1 l2 a3 a4 a5 t253 true a0_0 a0_1 a0_2 l0_3)) = some r := H
          have A30 := Aside0.mk A300
          clear A300
          have HC31 := Aside0.mk H
          clear H
          have hcz32_0 : wc.cell? ⟨gb249, 0, none⟩ = some (.int .i64 a0_0) := (blk_cell BK249.out 0).trans rfl
          have hcz32_1 : wc.cell? ⟨gb249, 1, none⟩ = some (.int .u64 a0_1) := (blk_cell BK249.out 1).trans rfl
          have hcz32_2 : wc.cell? ⟨gb249, 2, none⟩ = some (.int .u64 a0_2) := (blk_cell BK249.out 2).trans rfl
          have hcz32_3 : wc.cell? ⟨gb249, 3, none⟩ = some (.slice A0_3 l0_3.length c0_3) := (blk_cell BK249.out 3).trans rfl
          have hfz32_0 := blk_frozen BK249.out 0
          have hfz32_1 := blk_frozen BK249.out 1
          have hfz32_2 := blk_frozen BK249.out 2
          have hfz32_3 := blk_frozen BK249.out 3
          go_upto_region 6 with (first | ((with_reducible refine gate_callee (f := 11) rfl ?_); refine goesL_ (some 63) rfl rfl Try.func11 (by kernel_rfl) rfl #[.agg #[.int .i64 a0_0, .int .u64 a0_1, .int .u64 a0_2, .slice A0_3 l0_3.length c0_3]] rfl (by (try simp only [List.map_toArray, List.map_cons, List.map_nil]); first | done | rfl | (simp only [List.length_drop, List.length_take]; rfl)) ?_; (with_reducible refine (rec_Encode.calls kj8 a0_0 a0_1 a0_2 (fun k_ => k_ < w.heap.size) _ _ l0_3 t253 t256 _ ?side1 A30.out).mono ?_); (case side1 => exact Kd.V_mk HC0_3.out (Kd.F_below (Kd.C_F (Kd.heap_int .u8) HR0_3.out) (by repeat (first | (with_reducible first | exact HB.out | apply below_alloc | apply pw_below_drewN | apply below_drew1 | refine below_set ?_ GE249.out) | exact HB.out)))); rintro e w33 ⟨v254, rfl, ho0, hb⟩; refine ⟨_, rfl, ?_⟩; have n0_ := Aside0.mk (Kd.R_lower (Kd.R_mono (ok' := fun k_ => True) ho0 (fun _ hk_ => trivial)) (below_size (by repeat (first | (with_reducible first | exact HB.out | apply below_alloc | apply pw_below_drewN | apply below_drew1 | refine below_set ?_ GE249.out) | exact HB.out)))); have n1_ := Aside0.mk (blk_below (g := gb249) (o := .cells #[.int .i64 a0_0, .int .u64 a0_1, .int .u64 a0_2, .slice A0_3 l0_3.length c0_3] 25 (0, 0)) (by (with_reducible repeat (first | refine blk_drewN ?_ _ | refine blk_drew ?_ | refine blk_alloc ?_ _)); exact BK249.out) hb); have n2_ := Aside0.mk (below_step (by repeat (first | (with_reducible first | exact HB.out | apply below_alloc | apply pw_below_drewN | apply below_drew1 | refine below_set ?_ GE249.out) | exact HB.out)) hb); clear BK249; clear HB; have HO255 := n0_; have BK249 := n1_; have HB := n2_; clear n0_ n1_ n2_; (try clear hb); (try clear hb2); (try clear hk); (try clear hi); (try clear ho0)))
          (try simp only [Act.put, List.setIfInBounds_toArray, List.set_cons_zero, List.set_cons_succ])
          go_cut [72] (fun v72 wc => ∃ (kq : Nat) (x72_30 : Bool), v72 = .bool x72_30 ∧ Aside0 (tiklaw15_RecBack.j1 kq l1 l2 a3 a4 a5 t253 x72_30 a0_0 a0_1 a0_2 l0_3 = some r) ∧ Aside0 (kq ≤ kj8) ∧ Aside0 (Kd.R (Kd.int .u8) 5 wc w.heap.size (fun _ => True) v254 t253) ∧ Aside0 (wc.heap[gb249]? = some (.cells #[.int .i64 a0_0, .int .u64 a0_1, .int .u64 a0_2, (.slice A0_3 l0_3.length c0_3)] 25 (0, 0))) ∧ Aside0 (Below w.heap.size w wc))
          case first =>
            have H := HC31.out
            clear HC31
            by_cases c34 : t256 = 0
            · rw [if_pos c34] at H
              have c34b0 : (t256 == 0) = true := beq_iff_eq.mpr c34
              have c34b1 : (t256 != 0) = false := bne_eq_false_iff_eq.mpr c34
              clear c34
              (first | rw [c34b0] | (simp only [i64_w, i32_w]; rw [c34b0]) | skip)
              have H' := Aside0.mk H
              clear H
              obtain ⟨Ao35, co35, eo35⟩ := Kd.R_slice HO255.out
              subst eo35
              go_wp2
              go_meet
              case rel => exact ⟨_, (decide ((t253.length : Int) < 10)), (by first | rfl | (simp; done) | (simp [*]; done)), H', ⟨by have := HJ8.out; first | omega | exact Nat.le_refl _⟩, ⟨by (with_reducible repeat (first | apply Kd.R_alloc | apply Kd.R_drewN | apply Kd.R_drew)); exact HO255.out⟩, ⟨by (with_reducible repeat (first | refine blk_drewN ?_ _ | refine blk_drew ?_ | refine blk_alloc ?_ _)); exact BK249.out⟩, ⟨by repeat (first | (with_reducible first | exact HB.out | apply below_alloc | apply pw_below_drewN | apply below_drew1 | refine below_set ?_ GE249.out) | exact HB.out)⟩⟩
            · rw [if_neg c34] at H
              have c34b0 : (t256 == 0) = false := beq_eq_false_iff_ne.mpr c34
              have c34b1 : (t256 != 0) = true := bne_iff_ne.mpr c34
              (first | rw [c34b0] | (simp only [i64_w, i32_w]; rw [c34b0]) | skip)
              have H' := Aside0.mk H
              clear H
              go_wp2
              go_meet
              case rel => exact ⟨_, (true), (by first | rfl | (simp; done) | (simp [*]; done)), H', ⟨by have := HJ8.out; first | omega | exact Nat.le_refl _⟩, ⟨by (with_reducible repeat (first | apply Kd.R_alloc | apply Kd.R_drewN | apply Kd.R_drew)); exact HO255.out⟩, ⟨by (with_reducible repeat (first | refine blk_drewN ?_ _ | refine blk_drew ?_ | refine blk_alloc ?_ _)); exact BK249.out⟩, ⟨by repeat (first | (with_reducible first | exact HB.out | apply below_alloc | apply pw_below_drewN | apply below_drew1 | refine below_set ?_ GE249.out) | exact HB.out)⟩⟩
          case rest =>
            clear HC31
            try clear c1
            try clear c2
            try clear p2
            try clear c3
            try clear c4
            try clear c8
            try clear c10
            try clear c11
            try clear c12
            try clear c12b0
            try clear c12b1
            try clear c14
            try clear c14b0
            try clear c14b1
            try clear c16
            try clear c16b0
            try clear c16b1
            try clear c18
            try clear c18b0
            try clear c20
            try clear c20b0
            try clear c22
            try clear c22b0
            try clear c22b1
            try clear c27
            try clear c34
            try clear c34b0
            try clear c34b1
            try clear hcz13_0
            try clear hcz13_1
            try clear hcz13_2
            try clear hcz13_3
            try clear hcz15_0
            try clear hcz15_1
            try clear hcz15_2
            try clear hcz15_3
            try clear hcz17_0
            try clear hcz17_1
            try clear hcz17_2
            try clear hcz17_3
            try clear hcz19_0
            try clear hcz19_1
            try clear hcz19_2
            try clear hcz19_3
            try clear hcz21_0
            try clear hcz21_1
            try clear hcz21_2
            try clear hcz21_3
            try clear hcz23_0
            try clear hcz23_1
            try clear hcz23_2
            try clear hcz23_3
            try clear hcz25_0
            try clear hcz25_1
            try clear hcz25_2
            try clear hcz25_3
            try clear hcz32_0
            try clear hcz32_1
            try clear hcz32_2
            try clear hcz32_3
            try clear hfz13_0
            try clear hfz13_1
            try clear hfz13_2
            try clear hfz13_3
            try clear hfz15_0
            try clear hfz15_1
            try clear hfz15_2
            try clear hfz15_3
            try clear hfz17_0
            try clear hfz17_1
            try clear hfz17_2
            try clear hfz17_3
            try clear hfz19_0
            try clear hfz19_1
            try clear hfz19_2
            try clear hfz19_3
            try clear hfz21_0
            try clear hfz21_1
            try clear hfz21_2
            try clear hfz21_3
            try clear hfz23_0
            try clear hfz23_1
            try clear hfz23_2
            try clear hfz23_3
            try clear hfz25_0
            try clear hfz25_1
            try clear hfz25_2
            try clear hfz25_3
            try clear hfz32_0
            try clear hfz32_1
            try clear hfz32_2
            try clear hfz32_3
            try clear p2
            obtain ⟨kq, x72_30, rfl, HA, HJ30, HO_13, BK249, HB⟩ := hcut
            cases kq with
            | zero => exact absurd HA.out (by simp [tiklaw15_RecBack.j1])
            | succ kj30 =>
              have H := HA.out
              clear HA
              simp only [tiklaw15_RecBack.j1] at H
              by_cases c36 : x72_30 = true
              · subst c36
                have H1 : (some false) = some r := by rw [if_pos rfl] at H; exact H
                clear H
                have H := H1
                clear H1
                exact absurd ((Option.some.inj H).trans hr_.out) (by simp)
              · replace c36 := Bool.eq_false_iff.mpr c36
                subst c36
                have H1 : ((tikref_CopyBytes.f l1).bind fun t257 => (if t257.length + t253.length < 140737488355328 then ((some (t257 ++ t253 : List Int)).bind fun y260 => (if y260.length + l2.length < 140737488355328 then ((rec_Decode.f (y260 ++ l2) (l1.length : Int)).bind fun bt266 => (if (t253.length : Int) = 0 then (none) else (if 0 ≤ (Int.tmod a3 (t253.length : Int)) then (if (Int.tmod a3 (t253.length : Int)) ≤ (t253.length : Int) then ((rec_Decode.f (t253.take ((Int.tmod a3 (t253.length : Int)) : Int).toNat) 0).bind fun bt279 => (if bt266.2.2.2.2.2 = 0 then ((rec_Same.f a0_0 a0_1 a0_2 l0_3 bt266.1 bt266.2.1 bt266.2.2.1 bt266.2.2.2.1).bind fun t288 => (if t288 = true then (if bt266.2.2.2.2.1 = (wrap64 ((l1.length : Int) + (t253.length : Int))) then (tiklaw15_RecBack.j2 kj30 a4 a5 t253 (bt279.2.2.2.2.2 != 3) a0_0 a0_1 a0_2 l0_3) else (tiklaw15_RecBack.j2 kj30 a4 a5 t253 true a0_0 a0_1 a0_2 l0_3)) else (tiklaw15_RecBack.j2 kj30 a4 a5 t253 true a0_0 a0_1 a0_2 l0_3))) else (tiklaw15_RecBack.j2 kj30 a4 a5 t253 true a0_0 a0_1 a0_2 l0_3))) else (none)) else (none)))) else (none))) else (none))) = some r := by rw [if_neg (show ¬ (false = true) by decide)] at H; exact H
                clear H
                have H := H1
                clear H1
                replace H := Option.bind_eq_some_iff.mp H
                obtain ⟨t257, A370, H⟩ := H
                replace H : (if t257.length + t253.length < 140737488355328 then ((some (t257 ++ t253 : List Int)).bind fun y260 => (if y260.length + l2.length < 140737488355328 then ((rec_Decode.f (y260 ++ l2) (l1.length : Int)).bind fun bt266 => (if (t253.length : Int) = 0 then (none) else (if 0 ≤ (Int.tmod a3 (t253.length : Int)) then (if (Int.tmod a3 (t253.length : Int)) ≤ (t253.length : Int) then ((rec_Decode.f (t253.take ((Int.tmod a3 (t253.length : Int)) : Int).toNat) 0).bind fun bt279 => (if bt266.2.2.2.2.2 = 0 then ((rec_Same.f a0_0 a0_1 a0_2 l0_3 bt266.1 bt266.2.1 bt266.2.2.1 bt266.2.2.2.1).bind fun t288 => (if t288 = true then (if bt266.2.2.2.2.1 = (wrap64 ((l1.length : Int) + (t253.length : Int))) then (tiklaw15_RecBack.j2 kj30 a4 a5 t253 (bt279.2.2.2.2.2 != 3) a0_0 a0_1 a0_2 l0_3) else (tiklaw15_RecBack.j2 kj30 a4 a5 t253 true a0_0 a0_1 a0_2 l0_3)) else (tiklaw15_RecBack.j2 kj30 a4 a5 t253 true a0_0 a0_1 a0_2 l0_3))) else (tiklaw15_RecBack.j2 kj30 a4 a5 t253 true a0_0 a0_1 a0_2 l0_3))) else (none)) else (none)))) else (none))) else (none)) = some r := H
                have A37 := Aside0.mk A370
                clear A370
                by_cases c38 : t257.length + t253.length < 140737488355328
                · rw [if_pos c38] at H
                  have LMc38 := Aside0.mk c38
                  clear c38
                  obtain ⟨y260, hy260⟩ : ∃ y_ : List Int, y_ = (t257 ++ t253) := ⟨_, rfl⟩
                  replace H : (if y260.length + l2.length < 140737488355328 then ((rec_Decode.f (y260 ++ l2) (l1.length : Int)).bind fun bt266 => (if (t253.length : Int) = 0 then (none) else (if 0 ≤ (Int.tmod a3 (t253.length : Int)) then (if (Int.tmod a3 (t253.length : Int)) ≤ (t253.length : Int) then ((rec_Decode.f (t253.take ((Int.tmod a3 (t253.length : Int)) : Int).toNat) 0).bind fun bt279 => (if bt266.2.2.2.2.2 = 0 then ((rec_Same.f a0_0 a0_1 a0_2 l0_3 bt266.1 bt266.2.1 bt266.2.2.1 bt266.2.2.2.1).bind fun t288 => (if t288 = true then (if bt266.2.2.2.2.1 = (wrap64 ((l1.length : Int) + (t253.length : Int))) then (tiklaw15_RecBack.j2 kj30 a4 a5 t253 (bt279.2.2.2.2.2 != 3) a0_0 a0_1 a0_2 l0_3) else (tiklaw15_RecBack.j2 kj30 a4 a5 t253 true a0_0 a0_1 a0_2 l0_3)) else (tiklaw15_RecBack.j2 kj30 a4 a5 t253 true a0_0 a0_1 a0_2 l0_3))) else (tiklaw15_RecBack.j2 kj30 a4 a5 t253 true a0_0 a0_1 a0_2 l0_3))) else (none)) else (none)))) else (none)) = some r := by first | (rw [hy260]; with_reducible exact H) | (have H2_ := (Option.bind_some _ _).symm.trans H; rw [hy260]; with_reducible exact H2_) | (have H2_ := (Option.bind_some _ _).symm.trans H; with_reducible exact H2_) | with_reducible exact H | (rw [hy260]; exact H) | exact H
                  have Ny260 := Aside0.mk hy260
                  clear hy260
                  by_cases c39 : y260.length + l2.length < 140737488355328
                  · rw [if_pos c39] at H
                    have LMc39 := Aside0.mk c39
                    clear c39
                    obtain ⟨y263, hy263⟩ : ∃ y_ : List Int, y_ = (y260 ++ l2) := ⟨_, rfl⟩
                    replace H : ((rec_Decode.f y263 (l1.length : Int)).bind fun bt266 => (if (t253.length : Int) = 0 then (none) else (if 0 ≤ (Int.tmod a3 (t253.length : Int)) then (if (Int.tmod a3 (t253.length : Int)) ≤ (t253.length : Int) then ((rec_Decode.f (t253.take ((Int.tmod a3 (t253.length : Int)) : Int).toNat) 0).bind fun bt279 => (if bt266.2.2.2.2.2 = 0 then ((rec_Same.f a0_0 a0_1 a0_2 l0_3 bt266.1 bt266.2.1 bt266.2.2.1 bt266.2.2.2.1).bind fun t288 => (if t288 = true then (if bt266.2.2.2.2.1 = (wrap64 ((l1.length : Int) + (t253.length : Int))) then (tiklaw15_RecBack.j2 kj30 a4 a5 t253 (bt279.2.2.2.2.2 != 3) a0_0 a0_1 a0_2 l0_3) else (tiklaw15_RecBack.j2 kj30 a4 a5 t253 true a0_0 a0_1 a0_2 l0_3)) else (tiklaw15_RecBack.j2 kj30 a4 a5 t253 true a0_0 a0_1 a0_2 l0_3))) else (tiklaw15_RecBack.j2 kj30 a4 a5 t253 true a0_0 a0_1 a0_2 l0_3))) else (none)) else (none)))) = some r := by first | (rw [hy263]; with_reducible exact H) | (have H2_ := (Option.bind_some _ _).symm.trans H; rw [hy263]; with_reducible exact H2_) | (have H2_ := (Option.bind_some _ _).symm.trans H; with_reducible exact H2_) | with_reducible exact H | (rw [hy263]; exact H) | exact H
                    have Ny263 := Aside0.mk hy263
                    clear hy263
                    replace H := Option.bind_eq_some_iff.mp H
                    obtain ⟨⟨t266, t267, t268, t269, t272, t273⟩, A400, H⟩ := H
                    replace H : (if (t253.length : Int) = 0 then (none) else (if 0 ≤ (Int.tmod a3 (t253.length : Int)) then (if (Int.tmod a3 (t253.length : Int)) ≤ (t253.length : Int) then ((rec_Decode.f (t253.take ((Int.tmod a3 (t253.length : Int)) : Int).toNat) 0).bind fun bt279 => (if t273 = 0 then ((rec_Same.f a0_0 a0_1 a0_2 l0_3 t266 t267 t268 t269).bind fun t288 => (if t288 = true then (if t272 = (wrap64 ((l1.length : Int) + (t253.length : Int))) then (tiklaw15_RecBack.j2 kj30 a4 a5 t253 (bt279.2.2.2.2.2 != 3) a0_0 a0_1 a0_2 l0_3) else (tiklaw15_RecBack.j2 kj30 a4 a5 t253 true a0_0 a0_1 a0_2 l0_3)) else (tiklaw15_RecBack.j2 kj30 a4 a5 t253 true a0_0 a0_1 a0_2 l0_3))) else (tiklaw15_RecBack.j2 kj30 a4 a5 t253 true a0_0 a0_1 a0_2 l0_3))) else (none)) else (none))) = some r := H
                    have A40 := Aside0.mk A400
                    clear A400
                    by_cases c41 : (t253.length : Int) = 0
                    · rw [if_pos c41] at H
                      exact absurd H (by simp)
                    · rw [if_neg c41] at H
                      have c41b0 : ((t253.length : Int) == 0) = false := beq_eq_false_iff_ne.mpr c41
                      have c41b1 : ((t253.length : Int) != 0) = true := bne_iff_ne.mpr c41
                      have c41b2 : ¬ (t253 = []) := fun h_ => c41 (by rw [h_]; rfl)
                      obtain ⟨ji42, hji42⟩ : ∃ j_ : Int, (Int.tmod a3 (t253.length : Int)) = j_ := ⟨_, rfl⟩
                      replace H : (if 0 ≤ (ji42) then (if (ji42) ≤ (t253.length : Int) then ((rec_Decode.f (t253.take ((ji42) : Int).toNat) 0).bind fun bt279 => (if t273 = 0 then ((rec_Same.f a0_0 a0_1 a0_2 l0_3 t266 t267 t268 t269).bind fun t288 => (if t288 = true then (if t272 = (wrap64 ((l1.length : Int) + (t253.length : Int))) then (tiklaw15_RecBack.j2 kj30 a4 a5 t253 (bt279.2.2.2.2.2 != 3) a0_0 a0_1 a0_2 l0_3) else (tiklaw15_RecBack.j2 kj30 a4 a5 t253 true a0_0 a0_1 a0_2 l0_3)) else (tiklaw15_RecBack.j2 kj30 a4 a5 t253 true a0_0 a0_1 a0_2 l0_3))) else (tiklaw15_RecBack.j2 kj30 a4 a5 t253 true a0_0 a0_1 a0_2 l0_3))) else (none)) else (none)) = some r := by first | (rw [hji42] at H; exact H) | (simp only [hji42] at H ⊢; exact H)
                      (try rw [hji42] at A37)
                      (try rw [hji42] at A40)
                      by_cases c43 : 0 ≤ (ji42)
                      · rw [if_pos c43] at H
                        have c43b0 := eq_true c43
                        have c43b1 : decide (0 ≤ (ji42)) = true := decide_eq_true c43
                        clear c43
                        by_cases c44 : (ji42) ≤ (t253.length : Int)
                        · rw [if_pos c44] at H
                          have c44b0 := eq_true c44
                          have c44b1 : decide ((ji42) ≤ (t253.length : Int)) = true := decide_eq_true c44
                          clear c44
                          obtain ⟨y275, hy275⟩ : ∃ y_ : List Int, y_ = (t253.take ((ji42) : Int).toNat) := ⟨_, rfl⟩
                          replace H : ((rec_Decode.f y275 0).bind fun bt279 => (if t273 = 0 then ((rec_Same.f a0_0 a0_1 a0_2 l0_3 t266 t267 t268 t269).bind fun t288 => (if t288 = true then (if t272 = (wrap64 ((l1.length : Int) + (t253.length : Int))) then (tiklaw15_RecBack.j2 kj30 a4 a5 t253 (bt279.2.2.2.2.2 != 3) a0_0 a0_1 a0_2 l0_3) else (tiklaw15_RecBack.j2 kj30 a4 a5 t253 true a0_0 a0_1 a0_2 l0_3)) else (tiklaw15_RecBack.j2 kj30 a4 a5 t253 true a0_0 a0_1 a0_2 l0_3))) else (tiklaw15_RecBack.j2 kj30 a4 a5 t253 true a0_0 a0_1 a0_2 l0_3))) = some r := by first | (rw [hy275]; with_reducible exact H) | (have H2_ := (Option.bind_some _ _).symm.trans H; rw [hy275]; with_reducible exact H2_) | (have H2_ := (Option.bind_some _ _).symm.trans H; with_reducible exact H2_) | with_reducible exact H | (rw [hy275]; exact H) | exact H
                          have Ny275 := Aside0.mk hy275
                          clear hy275
                          replace H := Option.bind_eq_some_iff.mp H
                          obtain ⟨⟨t279, t280, t281, t282, t285, t286⟩, A450, H⟩ := H
                          replace H : (if t273 = 0 then ((rec_Same.f a0_0 a0_1 a0_2 l0_3 t266 t267 t268 t269).bind fun t288 => (if t288 = true then (if t272 = (wrap64 ((l1.length : Int) + (t253.length : Int))) then (tiklaw15_RecBack.j2 kj30 a4 a5 t253 (t286 != 3) a0_0 a0_1 a0_2 l0_3) else (tiklaw15_RecBack.j2 kj30 a4 a5 t253 true a0_0 a0_1 a0_2 l0_3)) else (tiklaw15_RecBack.j2 kj30 a4 a5 t253 true a0_0 a0_1 a0_2 l0_3))) else (tiklaw15_RecBack.j2 kj30 a4 a5 t253 true a0_0 a0_1 a0_2 l0_3)) = some r := H
                          have A45 := Aside0.mk A450
                          clear A450
                          have HC46 := Aside0.mk H
                          clear H
                          go_upto_region 11 with (first | ((with_reducible refine gate_callee (f := 21) rfl ?_); refine goesL_ (some 74) rfl rfl Try.func21 (by kernel_rfl) rfl #[.slice A1 l1.length c1] rfl (by (try simp only [List.map_toArray, List.map_cons, List.map_nil]); first | done | rfl | (simp only [List.length_drop, List.length_take]; rfl)) ?_; (with_reducible refine (tikref_CopyBytes.calls _ _ l1 t257 _ ?side1 ?side2 A37.out).mono ?_); (case side1 => repeat (first | exact (Kd.C_below HR1.out HB.out) | (with_reducible refine Kd.C_alloc ?_ _) | (with_reducible refine Kd.C_drewN ?_ _) | (with_reducible refine Kd.C_drew ?_))); (case side2 => exact HC1.out); rintro e w47 ⟨v258, rfl, ho0, hb⟩; refine ⟨_, rfl, ?_⟩; have n0_ := Aside0.mk (Kd.R_elder' (by (with_reducible repeat (first | apply Kd.R_alloc | apply Kd.R_drewN | apply Kd.R_drew)); exact HO_13.out) (Kd.R_base ho0) hb); have n1_ := Aside0.mk (Kd.R_lower (Kd.R_new' ho0 (Kd.R_lt (by (with_reducible repeat (first | apply Kd.R_alloc | apply Kd.R_drewN | apply Kd.R_drew)); exact HO_13.out))) (below_size (by repeat (first | (with_reducible first | exact HB.out | apply below_alloc | apply pw_below_drewN | apply below_drew1 | refine below_set ?_ GE249.out) | exact HB.out)))); have n2_ := Aside0.mk (blk_below (g := gb249) (o := .cells #[.int .i64 a0_0, .int .u64 a0_1, .int .u64 a0_2, .slice A0_3 l0_3.length c0_3] 25 (0, 0)) (by (with_reducible repeat (first | refine blk_drewN ?_ _ | refine blk_drew ?_ | refine blk_alloc ?_ _)); exact BK249.out) hb); have n3_ := Aside0.mk (below_step (by repeat (first | (with_reducible first | exact HB.out | apply below_alloc | apply pw_below_drewN | apply below_drew1 | refine below_set ?_ GE249.out) | exact HB.out)) hb); clear HO_13; clear BK249; clear HB; have HO_13 := n0_; have HO259 := n1_; have BK249 := n2_; have HB := n3_; clear n0_ n1_ n2_ n3_; (try clear hb); (try clear hb2); (try clear hk); (try clear hi); (try clear ho0); obtain ⟨Ao49, co49, eo49⟩ := Kd.R_slice HO_13.out; subst eo49) | ((with_reducible refine gate_builtin (b := .append) (xs := #[.tmp 74, .tmp 75]) rfl ?_); (try (refine gate_guard (by rfl) ?_; dsimp only)); at_builtin; refine Kd.R_append_rows (Kd.int .u8) (w0 := w) w.heap.size rfl (.tmp 74) (.tmp 75) 23 5 (.int .u8 0) 1 rfl Try.underlying23 info5 rfl (by decide) (by omega) v258 t257 t253 _ _ _ (fun k_ => some k_ ≠ (.slice Ao49 t253.length co49 : Value).ownBlock) (fun _ => False) rfl rfl ?aO ?aR (fun _ _ h => h) (fun _ h => h.elim) ?aF ?aB ?aS ?aL ?_; (case aR => repeat (first | exact (Kd.R_reads' HO_13.out).2.2 | (with_reducible refine Kd.C_alloc ?_ _) | (with_reducible refine Kd.C_drewN ?_ _) | (with_reducible refine Kd.C_drew ?_))); (case aB => exact (by repeat (first | (with_reducible first | exact HB.out | apply below_alloc | apply pw_below_drewN | apply below_drew1 | refine below_set ?_ GE249.out) | exact HB.out))); (case aF => exact (fun k_ hk => Kd.fresh' (Kd.R_lt (by (with_reducible repeat (first | apply Kd.R_alloc | apply Kd.R_drewN | apply Kd.R_drew)); exact HO_13.out)) k_ hk)); (case aO => exact (by (with_reducible repeat (first | apply Kd.R_alloc | apply Kd.R_drewN | apply Kd.R_drew)); exact Kd.R_mono HO259.out (fun _ hk => hk.2))); (case aS => exact (below_size (by repeat (first | (with_reducible first | exact HB.out | apply below_alloc | apply pw_below_drewN | apply below_drew1 | refine below_set ?_ GE249.out) | exact HB.out)))); (case aL => have := LMc38.out; omega); intro v261 w48 ho hb hg hat; rw [← Ny260.out] at ho; have n0_ := Aside0.mk (Kd.R_after (ok := (fun _ => True)) (by (with_reducible repeat (first | apply Kd.R_alloc | apply Kd.R_drewN | apply Kd.R_drew)); exact HO_13.out) hg hat); have n1_ := Aside0.mk (blk_grown (g := gb249) (o := .cells #[.int .i64 a0_0, .int .u64 a0_1, .int .u64 a0_2, .slice A0_3 l0_3.length c0_3] 25 (0, 0)) (by (with_reducible repeat (first | refine blk_drewN ?_ _ | refine blk_drew ?_ | refine blk_alloc ?_ _)); exact BK249.out) hg (Kd.R_ne HO259.out BK249.out (by decide))); have n2_ := Aside0.mk (hb); have n3_ := Aside0.mk (ho); clear HO_13; clear BK249; clear HB; clear HO259; have HO_13 := n0_; have BK249 := n1_; have HB := n2_; have HO262 := n3_; clear n0_ n1_ n2_ n3_; clear ho hb hg hat) | ((with_reducible refine gate_builtin (b := .append) (xs := #[.tmp 76, .tmp 77]) rfl ?_); (try (refine gate_guard (by rfl) ?_; dsimp only)); at_builtin; refine Kd.R_append_rows (Kd.int .u8) (w0 := w) w.heap.size rfl (.tmp 76) (.tmp 77) 23 5 (.int .u8 0) 1 rfl Try.underlying23 info5 rfl (by decide) (by omega) v261 y260 l2 _ _ _ (fun k_ => some k_ ≠ (.slice Ao49 t253.length co49 : Value).ownBlock) (fun _ => False) rfl rfl ?aO ?aR (fun _ _ h => h) (fun _ h => h.elim) ?aF ?aB ?aS ?aL ?_; (case aR => repeat (first | exact (Kd.C_below HR2.out HB.out) | (with_reducible refine Kd.C_alloc ?_ _) | (with_reducible refine Kd.C_drewN ?_ _) | (with_reducible refine Kd.C_drew ?_))); (case aB => exact (by repeat (first | (with_reducible first | exact HB.out | apply below_alloc | apply pw_below_drewN | apply below_drew1 | refine below_set ?_ GE249.out) | exact HB.out))); (case aF => exact (fun k_ hk => Kd.fresh' (Kd.R_lt (by (with_reducible repeat (first | apply Kd.R_alloc | apply Kd.R_drewN | apply Kd.R_drew)); exact HO_13.out)) k_ hk)); (case aO => exact (by (with_reducible repeat (first | apply Kd.R_alloc | apply Kd.R_drewN | apply Kd.R_drew)); exact HO262.out)); (case aS => exact (below_size (by repeat (first | (with_reducible first | exact HB.out | apply below_alloc | apply pw_below_drewN | apply below_drew1 | refine below_set ?_ GE249.out) | exact HB.out)))); (case aL => have := LMc39.out; omega); intro v264 w50 ho hb hg hat; rw [← Ny263.out] at ho; have n0_ := Aside0.mk (Kd.R_after (ok := (fun _ => True)) (by (with_reducible repeat (first | apply Kd.R_alloc | apply Kd.R_drewN | apply Kd.R_drew)); exact HO_13.out) hg hat); have n1_ := Aside0.mk (blk_grown (g := gb249) (o := .cells #[.int .i64 a0_0, .int .u64 a0_1, .int .u64 a0_2, .slice A0_3 l0_3.length c0_3] 25 (0, 0)) (by (with_reducible repeat (first | refine blk_drewN ?_ _ | refine blk_drew ?_ | refine blk_alloc ?_ _)); exact BK249.out) hg (Kd.R_ne HO262.out BK249.out (by decide))); have n2_ := Aside0.mk (hb); have n3_ := Aside0.mk (ho); clear HO_13; clear BK249; clear HB; clear HO262; have HO_13 := n0_; have BK249 := n1_; have HB := n2_; have HO265 := n3_; clear n0_ n1_ n2_ n3_; clear ho hb hg hat; obtain ⟨Ao51, co51, eo51⟩ := Kd.R_slice HO265.out; subst eo51) | ((with_reducible refine gate_callee (f := 14) rfl ?_); refine goesL_ (some 83) rfl rfl Try.func14 (by kernel_rfl) rfl #[.slice Ao51 y263.length co51, .int .i64 (l1.length : Int)] rfl (by (try simp only [List.map_toArray, List.map_cons, List.map_nil]); first | done | rfl | (simp only [List.length_drop, List.length_take]; rfl)) ?_; (with_reducible refine (rec_Decode.calls _ _ y263 (l1.length : Int) t266 t267 t268 t269 t272 t273 _ ?side1 ?side2 A40.out).mono ?_); (case side1 => repeat (first | exact (Kd.R_reads' HO265.out).2.2 | (with_reducible refine Kd.C_alloc ?_ _) | (with_reducible refine Kd.C_drewN ?_ _) | (with_reducible refine Kd.C_drew ?_))); (case side2 => exact (Kd.R_reads' HO265.out).2.1); rintro e w52 ⟨v270, rfl, ho0, hb⟩; refine ⟨_, rfl, ?_⟩; have n0_ := Aside0.mk (Kd.R_elder' (by (with_reducible repeat (first | apply Kd.R_alloc | apply Kd.R_drewN | apply Kd.R_drew)); exact HO_13.out) (Kd.R_base ho0) hb); have n1_ := Aside0.mk (Kd.R_elder' (by (with_reducible repeat (first | apply Kd.R_alloc | apply Kd.R_drewN | apply Kd.R_drew)); exact HO265.out) (Kd.R_base ho0) hb); have n2_ := Aside0.mk (Kd.R_lower (Kd.R_new' (Kd.R_new' ho0 (Kd.R_lt (by (with_reducible repeat (first | apply Kd.R_alloc | apply Kd.R_drewN | apply Kd.R_drew)); exact HO_13.out))) (Kd.R_lt (by (with_reducible repeat (first | apply Kd.R_alloc | apply Kd.R_drewN | apply Kd.R_drew)); exact HO265.out))) (below_size (by repeat (first | (with_reducible first | exact HB.out | apply below_alloc | apply pw_below_drewN | apply below_drew1 | refine below_set ?_ GE249.out) | exact HB.out)))); have n3_ := Aside0.mk (blk_below (g := gb249) (o := .cells #[.int .i64 a0_0, .int .u64 a0_1, .int .u64 a0_2, .slice A0_3 l0_3.length c0_3] 25 (0, 0)) (by (with_reducible repeat (first | refine blk_drewN ?_ _ | refine blk_drew ?_ | refine blk_alloc ?_ _)); exact BK249.out) hb); have n4_ := Aside0.mk (below_step (by repeat (first | (with_reducible first | exact HB.out | apply below_alloc | apply pw_below_drewN | apply below_drew1 | refine below_set ?_ GE249.out) | exact HB.out)) hb); clear HO_13; clear HO265; clear BK249; clear HB; have HO_13 := n0_; have HO265 := n1_; have HO271 := n2_; have BK249 := n3_; have HB := n4_; clear n0_ n1_ n2_ n3_ n4_; (try clear hb); (try clear hb2); (try clear hk); (try clear hi); (try clear ho0)) | ((with_reducible refine gate_dst (N := 16) rfl ?_); (try (refine gate_guard (by rfl) ?_; dsimp only)); refine box_event ?hg (N := 16) ?hd (cs := #[.int .i64 0, .int .u64 0, .int .u64 0, .slice none 0 0]) (t := 25) ?hr ?_; (case hd => rfl); (case hg => rfl); (case hr => first | (go_simp; done) | (go_simp; rfl)); intro gb274 hg w53 hbox hb; have n0_ := Aside0.mk (Kd.R_below (by (with_reducible repeat (first | apply Kd.R_alloc | apply Kd.R_drewN | apply Kd.R_drew)); exact HO_13.out) hb); have n1_ := Aside0.mk (Kd.R_below (by (with_reducible repeat (first | apply Kd.R_alloc | apply Kd.R_drewN | apply Kd.R_drew)); exact HO265.out) hb); have n2_ := Aside0.mk (Kd.R_below (by (with_reducible repeat (first | apply Kd.R_alloc | apply Kd.R_drewN | apply Kd.R_drew)); exact HO271.out) hb); have n3_ := Aside0.mk (blk_below (g := gb249) (o := .cells #[.int .i64 a0_0, .int .u64 a0_1, .int .u64 a0_2, .slice A0_3 l0_3.length c0_3] 25 (0, 0)) (by (with_reducible repeat (first | refine blk_drewN ?_ _ | refine blk_drew ?_ | refine blk_alloc ?_ _)); exact BK249.out) hb); have n4_ := Aside0.mk (below_step (by repeat (first | (with_reducible first | exact HB.out | apply below_alloc | apply pw_below_drewN | apply below_drew1 | refine below_set ?_ GE249.out) | exact HB.out)) hb); have n5_ := Aside0.mk (hbox); have n6_ := Aside0.mk ((by rw [hg]; exact (below_size (by repeat (first | (with_reducible first | exact HB.out | apply below_alloc | apply pw_below_drewN | apply below_drew1 | refine below_set ?_ GE249.out) | exact HB.out))) : w.heap.size ≤ gb274)); have n7_ := Aside0.mk ((by rw [hg]; exact (below_size (by repeat (first | (with_reducible first | exact HB.out | apply below_alloc | apply pw_below_drewN | apply below_drew1 | refine below_set ?_ GE249.out) | exact HB.out))) : w.heap.size ≤ gb274)); have n8_ := Aside0.mk ((by rw [hg]; exact Nat.ne_of_lt (blk_lt (g := gb249) (o := .cells #[.int .i64 a0_0, .int .u64 a0_1, .int .u64 a0_2, .slice A0_3 l0_3.length c0_3] 25 (0, 0)) (by (with_reducible repeat (first | refine blk_drewN ?_ _ | refine blk_drew ?_ | refine blk_alloc ?_ _)); exact BK249.out)) : gb249 ≠ gb274)); have n9_ := Aside0.mk ((by rw [hg]; exact Nat.ne_of_gt (blk_lt (g := gb249) (o := .cells #[.int .i64 a0_0, .int .u64 a0_1, .int .u64 a0_2, .slice A0_3 l0_3.length c0_3] 25 (0, 0)) (by (with_reducible repeat (first | refine blk_drewN ?_ _ | refine blk_drew ?_ | refine blk_alloc ?_ _)); exact BK249.out)) : gb274 ≠ gb249)); clear HO_13; clear HO265; clear HO271; clear BK249; clear HB; have HO_13 := n0_; have HO265 := n1_; have HO271 := n2_; have BK249 := n3_; have HB := n4_; have BK274 := n5_; have GW274 := n6_; have GE274 := n7_; have NB249_274 := n8_; have NB274_249 := n9_; clear n0_ n1_ n2_ n3_ n4_ n5_ n6_ n7_ n8_ n9_; clear hb hbox hg; have hnb54 := NB274_249.out; have hnc54 := NB249_274.out; have hcz55_0 : w53.cell? ⟨gb274, 0, none⟩ = some (.int .i64 0) := (blk_cell BK274.out 0).trans rfl; have hcz55_1 : w53.cell? ⟨gb274, 1, none⟩ = some (.int .u64 0) := (blk_cell BK274.out 1).trans rfl; have hcz55_2 : w53.cell? ⟨gb274, 2, none⟩ = some (.int .u64 0) := (blk_cell BK274.out 2).trans rfl; have hcz55_3 : w53.cell? ⟨gb274, 3, none⟩ = some (.slice none 0 0) := (blk_cell BK274.out 3).trans rfl; have hfz55_0 := blk_frozen BK274.out 0; have hfz55_1 := blk_frozen BK274.out 1; have hfz55_2 := blk_frozen BK274.out 2; have hfz55_3 := blk_frozen BK274.out 3; obtain ⟨Ao56, co56, eo56⟩ := Kd.R_slice HO271.out; subst eo56) | ((with_reducible refine gate_store (t := 25) (p := 16) rfl ?_); refine store_event (t := 25) (p := 16) (v := ?vo_w57) (w1 := ((((w53.setCell ⟨gb274, 0, none⟩ (.int .i64 t266)).setCell ⟨gb274, 1, none⟩ (.int .u64 t267)).setCell ⟨gb274, 2, none⟩ (.int .u64 t268)).setCell ⟨gb274, 3, none⟩ (.slice Ao56 t269.length co56))) ?hg ?ho ?hn ?hr ?_; (case ho => rfl); (case hg => rfl); (case hn => rfl); (case hr => first | (go_simp; done) | (go_simp; rfl)); intro w57 hw; have n0_ : Aside0 (Kd.R (Kd.int .u8) 5 w57 w.heap.size (fun k_ => some k_ ≠ (.slice Ao51 y263.length co51 : Value).ownBlock ∧ some k_ ≠ (.slice Ao56 t269.length co56 : Value).ownBlock) (.slice Ao49 t253.length co49) t253) := ⟨(by rw [hw]; exact (by (with_reducible repeat (first | apply Kd.R_alloc | apply Kd.R_drewN | apply Kd.R_drew)); exact Kd.R_mono (Kd.R_far (p := ⟨gb274, 3, none⟩) (Kd.R_far (p := ⟨gb274, 2, none⟩) (Kd.R_far (p := ⟨gb274, 1, none⟩) (Kd.R_far (p := ⟨gb274, 0, none⟩) (Kd.R_types HO_13.out BK274.out (by decide)) (fun _ hk => hk.2) (.int .i64 t266)) (fun _ hk => hk.2) (.int .u64 t267)) (fun _ hk => hk.2) (.int .u64 t268)) (fun _ hk => hk.2) (.slice Ao56 t269.length co56)) (fun _ hk => ⟨hk.1.1.2, hk.1.2⟩)))⟩; have n1_ : Aside0 (Kd.R (Kd.int .u8) 5 w57 w.heap.size (fun k_ => some k_ ≠ (.slice Ao49 t253.length co49 : Value).ownBlock ∧ some k_ ≠ (.slice Ao56 t269.length co56 : Value).ownBlock) (.slice Ao51 y263.length co51) y263) := ⟨(by rw [hw]; exact (by (with_reducible repeat (first | apply Kd.R_alloc | apply Kd.R_drewN | apply Kd.R_drew)); exact Kd.R_mono (Kd.R_far (p := ⟨gb274, 3, none⟩) (Kd.R_far (p := ⟨gb274, 2, none⟩) (Kd.R_far (p := ⟨gb274, 1, none⟩) (Kd.R_far (p := ⟨gb274, 0, none⟩) (Kd.R_types HO265.out BK274.out (by decide)) (fun _ hk => hk.2) (.int .i64 t266)) (fun _ hk => hk.2) (.int .u64 t267)) (fun _ hk => hk.2) (.int .u64 t268)) (fun _ hk => hk.2) (.slice Ao56 t269.length co56)) (fun _ hk => ⟨hk.1.1, hk.1.2⟩)))⟩; have n2_ : Aside0 (Kd.R (Kd.int .u8) 5 w57 w.heap.size (fun k_ => some k_ ≠ (.slice Ao49 t253.length co49 : Value).ownBlock ∧ some k_ ≠ (.slice Ao51 y263.length co51 : Value).ownBlock) (.slice Ao56 t269.length co56) t269) := ⟨(by rw [hw]; exact (by (with_reducible repeat (first | apply Kd.R_alloc | apply Kd.R_drewN | apply Kd.R_drew)); exact Kd.R_mono (Kd.R_far (p := ⟨gb274, 3, none⟩) (Kd.R_far (p := ⟨gb274, 2, none⟩) (Kd.R_far (p := ⟨gb274, 1, none⟩) (Kd.R_far (p := ⟨gb274, 0, none⟩) (Kd.R_types HO271.out BK274.out (by decide)) (fun _ hk => hk.2) (.int .i64 t266)) (fun _ hk => hk.2) (.int .u64 t267)) (fun _ hk => hk.2) (.int .u64 t268)) (fun _ hk => hk.2) (.slice Ao56 t269.length co56)) (fun _ hk => ⟨hk.1.1.2, hk.1.2⟩)))⟩; have n3_ : Aside0 (w57.heap[gb249]? = some (.cells #[.int .i64 a0_0, .int .u64 a0_1, .int .u64 a0_2, .slice A0_3 l0_3.length c0_3] 25 (0, 0))) := ⟨(by rw [hw]; exact (by (with_reducible repeat (first | refine blk_drewN ?_ _ | refine blk_drew ?_ | refine blk_alloc ?_ _)); refine blk_far ?_ NB249_274.out _; (with_reducible repeat (first | refine blk_drewN ?_ _ | refine blk_drew ?_ | refine blk_alloc ?_ _)); refine blk_far ?_ NB249_274.out _; (with_reducible repeat (first | refine blk_drewN ?_ _ | refine blk_drew ?_ | refine blk_alloc ?_ _)); refine blk_far ?_ NB249_274.out _; (with_reducible repeat (first | refine blk_drewN ?_ _ | refine blk_drew ?_ | refine blk_alloc ?_ _)); refine blk_far ?_ NB249_274.out _; (with_reducible repeat (first | refine blk_drewN ?_ _ | refine blk_drew ?_ | refine blk_alloc ?_ _)); exact BK249.out))⟩; have n4_ : Aside0 (w57.heap[gb274]? = some (.cells #[.int .i64 t266, .int .u64 t267, .int .u64 t268, .slice Ao56 t269.length co56] 25 (0, 0))) := ⟨(by rw [hw]; exact (by (with_reducible repeat (first | refine blk_drewN ?_ _ | refine blk_drew ?_ | refine blk_alloc ?_ _)); refine blk_put (cs := #[.int .i64 t266, .int .u64 t267, .int .u64 t268, .slice none 0 0]) ?_ 3 _ rfl; (with_reducible repeat (first | refine blk_drewN ?_ _ | refine blk_drew ?_ | refine blk_alloc ?_ _)); refine blk_put (cs := #[.int .i64 t266, .int .u64 t267, .int .u64 0, .slice none 0 0]) ?_ 2 _ rfl; (with_reducible repeat (first | refine blk_drewN ?_ _ | refine blk_drew ?_ | refine blk_alloc ?_ _)); refine blk_put (cs := #[.int .i64 t266, .int .u64 0, .int .u64 0, .slice none 0 0]) ?_ 1 _ rfl; (with_reducible repeat (first | refine blk_drewN ?_ _ | refine blk_drew ?_ | refine blk_alloc ?_ _)); refine blk_put (cs := #[.int .i64 0, .int .u64 0, .int .u64 0, .slice none 0 0]) ?_ 0 _ rfl; (with_reducible repeat (first | refine blk_drewN ?_ _ | refine blk_drew ?_ | refine blk_alloc ?_ _)); exact BK274.out))⟩; have n5_ : Aside0 (Below w.heap.size w w57) := ⟨(by rw [hw]; exact (by repeat (first | (with_reducible first | exact HB.out | apply below_alloc | apply pw_below_drewN | apply below_drew1 | refine below_set ?_ GE249.out | refine below_set ?_ GE274.out) | exact HB.out)))⟩; clear hw; clear HO_13; clear HO265; clear HO271; clear BK249; clear BK274; clear HB; have HO_13 := n0_; have HO265 := n1_; have HO271 := n2_; have BK249 := n3_; have BK274 := n4_; have HB := n5_; clear n0_ n1_ n2_ n3_ n4_ n5_; have q58 : ((ji42) : Int) ≤ ((t253.length : Int) : Int) := of_decide_eq_true (by first | (with_reducible assumption) | assumption); obtain ⟨i058, hi058, _, hsz58, _⟩ := info_parts info5; have hroom58 : t253.length ≤ co49 := (Kd.R_reads' HO_13.out).2.1; have hC58 : Kd.C (Kd.int .u8) _ Ao49 t253.length t253 := (Kd.R_reads' HO_13.out).2.2; have hcut58 := cut_to (P := Try.prog) 23 5 .i64 Try.underlying23 hi058 Ao49 t253.length co49 (ji42) (of_decide_eq_true (by first | (with_reducible assumption) | assumption)) q58 hroom58; have hr58 := Kd.C_take (m := ((ji42) : Int).toNat) hC58 (by omega); have hy58 : y275.length = ((ji42) : Int).toNat := (by rw [Ny275.out, List.length_take]; omega); rw [← Ny275.out] at hr58; rw [← hy58] at hcut58; have HR278 := Aside0.mk hr58; have HC278 := Aside0.mk (show y275.length ≤ co49 from by omega); clear hr58 hC58 hroom58 hi058 hsz58; have KY58 := Aside0.mk hy58; clear hy58; have KL58 := Aside0.mk (show ((ji42) : Int).toNat ≤ t253.length from by omega); replace q58 := eq_true q58) | ((with_reducible refine gate_callee (f := 14) rfl ?_); refine goesL_ (some 94) rfl rfl Try.func14 (by kernel_rfl) rfl #[.slice Ao49 y275.length co49, .int .i64 0] rfl (by (try simp only [List.map_toArray, List.map_cons, List.map_nil]); first | done | rfl | (simp only [List.length_drop, List.length_take]; rfl)) ?_; (with_reducible refine (rec_Decode.calls _ _ y275 0 t279 t280 t281 t282 t285 t286 _ ?side1 ?side2 A45.out).mono ?_); (case side1 => repeat (first | exact (by repeat (first | (with_reducible exact HR278.out) | (with_reducible refine Kd.C_alloc ?_ _) | (with_reducible refine Kd.C_drewN ?_ _) | (with_reducible refine Kd.C_drew ?_) | exact HR278.out)) | (with_reducible refine Kd.C_alloc ?_ _) | (with_reducible refine Kd.C_drewN ?_ _) | (with_reducible refine Kd.C_drew ?_))); (case side2 => exact HC278.out); rintro e w59 ⟨v283, rfl, ho0, hb⟩; refine ⟨_, rfl, ?_⟩; have n0_ := Aside0.mk (Kd.R_elder' (by (with_reducible repeat (first | apply Kd.R_alloc | apply Kd.R_drewN | apply Kd.R_drew)); exact HO_13.out) (Kd.R_base ho0) hb); have n1_ := Aside0.mk (Kd.R_elder' (by (with_reducible repeat (first | apply Kd.R_alloc | apply Kd.R_drewN | apply Kd.R_drew)); exact HO265.out) (Kd.R_base ho0) hb); have n2_ := Aside0.mk (Kd.R_elder' (by (with_reducible repeat (first | apply Kd.R_alloc | apply Kd.R_drewN | apply Kd.R_drew)); exact HO271.out) (Kd.R_base ho0) hb); have n3_ := Aside0.mk (Kd.R_lower (Kd.R_new' (Kd.R_new' (Kd.R_new' ho0 (Kd.R_lt (by (with_reducible repeat (first | apply Kd.R_alloc | apply Kd.R_drewN | apply Kd.R_drew)); exact HO_13.out))) (Kd.R_lt (by (with_reducible repeat (first | apply Kd.R_alloc | apply Kd.R_drewN | apply Kd.R_drew)); exact HO265.out))) (Kd.R_lt (by (with_reducible repeat (first | apply Kd.R_alloc | apply Kd.R_drewN | apply Kd.R_drew)); exact HO271.out))) (below_size (by repeat (first | (with_reducible first | exact HB.out | apply below_alloc | apply pw_below_drewN | apply below_drew1 | refine below_set ?_ GE249.out | refine below_set ?_ GE274.out) | exact HB.out)))); have n4_ := Aside0.mk (blk_below (g := gb249) (o := .cells #[.int .i64 a0_0, .int .u64 a0_1, .int .u64 a0_2, .slice A0_3 l0_3.length c0_3] 25 (0, 0)) (by (with_reducible repeat (first | refine blk_drewN ?_ _ | refine blk_drew ?_ | refine blk_alloc ?_ _)); exact BK249.out) hb); have n5_ := Aside0.mk (blk_below (g := gb274) (o := .cells #[.int .i64 t266, .int .u64 t267, .int .u64 t268, .slice Ao56 t269.length co56] 25 (0, 0)) (by (with_reducible repeat (first | refine blk_drewN ?_ _ | refine blk_drew ?_ | refine blk_alloc ?_ _)); exact BK274.out) hb); have n6_ := Aside0.mk (Kd.C_below (by repeat (first | (with_reducible exact HR278.out) | (with_reducible refine Kd.C_alloc ?_ _) | (with_reducible refine Kd.C_drewN ?_ _) | (with_reducible refine Kd.C_drew ?_) | exact HR278.out)) hb); have n7_ := Aside0.mk (below_step (by repeat (first | (with_reducible first | exact HB.out | apply below_alloc | apply pw_below_drewN | apply below_drew1 | refine below_set ?_ GE249.out | refine below_set ?_ GE274.out) | exact HB.out)) hb); clear HO_13; clear HO265; clear HO271; clear BK249; clear BK274; clear HR278; clear HB; have HO_13 := n0_; have HO265 := n1_; have HO271 := n2_; have HO284 := n3_; have BK249 := n4_; have BK274 := n5_; have HR278 := n6_; have HB := n7_; clear n0_ n1_ n2_ n3_ n4_ n5_ n6_ n7_; (try clear hb); (try clear hb2); (try clear hk); (try clear hi); (try clear ho0)) | ((with_reducible refine gate_dst (N := 19) rfl ?_); (try (refine gate_guard (by rfl) ?_; dsimp only)); refine box_event ?hg (N := 19) ?hd (cs := #[.int .i64 0, .int .u64 0, .int .u64 0, .slice none 0 0]) (t := 25) ?hr ?_; (case hd => rfl); (case hg => rfl); (case hr => first | (go_simp; done) | (go_simp; rfl)); intro gb287 hg w60 hbox hb; have n0_ := Aside0.mk (Kd.R_below (by (with_reducible repeat (first | apply Kd.R_alloc | apply Kd.R_drewN | apply Kd.R_drew)); exact HO_13.out) hb); have n1_ := Aside0.mk (Kd.R_below (by (with_reducible repeat (first | apply Kd.R_alloc | apply Kd.R_drewN | apply Kd.R_drew)); exact HO265.out) hb); have n2_ := Aside0.mk (Kd.R_below (by (with_reducible repeat (first | apply Kd.R_alloc | apply Kd.R_drewN | apply Kd.R_drew)); exact HO271.out) hb); have n3_ := Aside0.mk (Kd.R_below (by (with_reducible repeat (first | apply Kd.R_alloc | apply Kd.R_drewN | apply Kd.R_drew)); exact HO284.out) hb); have n4_ := Aside0.mk (blk_below (g := gb249) (o := .cells #[.int .i64 a0_0, .int .u64 a0_1, .int .u64 a0_2, .slice A0_3 l0_3.length c0_3] 25 (0, 0)) (by (with_reducible repeat (first | refine blk_drewN ?_ _ | refine blk_drew ?_ | refine blk_alloc ?_ _)); exact BK249.out) hb); have n5_ := Aside0.mk (blk_below (g := gb274) (o := .cells #[.int .i64 t266, .int .u64 t267, .int .u64 t268, .slice Ao56 t269.length co56] 25 (0, 0)) (by (with_reducible repeat (first | refine blk_drewN ?_ _ | refine blk_drew ?_ | refine blk_alloc ?_ _)); exact BK274.out) hb); have n6_ := Aside0.mk (below_step (by repeat (first | (with_reducible first | exact HB.out | apply below_alloc | apply pw_below_drewN | apply below_drew1 | refine below_set ?_ GE249.out | refine below_set ?_ GE274.out) | exact HB.out)) hb); have n7_ := Aside0.mk (hbox); have n8_ := Aside0.mk ((by rw [hg]; exact (below_size (by repeat (first | (with_reducible first | exact HB.out | apply below_alloc | apply pw_below_drewN | apply below_drew1 | refine below_set ?_ GE249.out | refine below_set ?_ GE274.out) | exact HB.out))) : w.heap.size ≤ gb287)); have n9_ := Aside0.mk ((by rw [hg]; exact (below_size (by repeat (first | (with_reducible first | exact HB.out | apply below_alloc | apply pw_below_drewN | apply below_drew1 | refine below_set ?_ GE249.out | refine below_set ?_ GE274.out) | exact HB.out))) : w.heap.size ≤ gb287)); have n10_ := Aside0.mk ((by rw [hg]; exact Nat.ne_of_lt (blk_lt (g := gb249) (o := .cells #[.int .i64 a0_0, .int .u64 a0_1, .int .u64 a0_2, .slice A0_3 l0_3.length c0_3] 25 (0, 0)) (by (with_reducible repeat (first | refine blk_drewN ?_ _ | refine blk_drew ?_ | refine blk_alloc ?_ _)); exact BK249.out)) : gb249 ≠ gb287)); have n11_ := Aside0.mk ((by rw [hg]; exact Nat.ne_of_gt (blk_lt (g := gb249) (o := .cells #[.int .i64 a0_0, .int .u64 a0_1, .int .u64 a0_2, .slice A0_3 l0_3.length c0_3] 25 (0, 0)) (by (with_reducible repeat (first | refine blk_drewN ?_ _ | refine blk_drew ?_ | refine blk_alloc ?_ _)); exact BK249.out)) : gb287 ≠ gb249)); have n12_ := Aside0.mk ((by rw [hg]; exact Nat.ne_of_lt (blk_lt (g := gb274) (o := .cells #[.int .i64 t266, .int .u64 t267, .int .u64 t268, .slice Ao56 t269.length co56] 25 (0, 0)) (by (with_reducible repeat (first | refine blk_drewN ?_ _ | refine blk_drew ?_ | refine blk_alloc ?_ _)); exact BK274.out)) : gb274 ≠ gb287)); have n13_ := Aside0.mk ((by rw [hg]; exact Nat.ne_of_gt (blk_lt (g := gb274) (o := .cells #[.int .i64 t266, .int .u64 t267, .int .u64 t268, .slice Ao56 t269.length co56] 25 (0, 0)) (by (with_reducible repeat (first | refine blk_drewN ?_ _ | refine blk_drew ?_ | refine blk_alloc ?_ _)); exact BK274.out)) : gb287 ≠ gb274)); clear HO_13; clear HO265; clear HO271; clear HO284; clear BK249; clear BK274; clear HB; have HO_13 := n0_; have HO265 := n1_; have HO271 := n2_; have HO284 := n3_; have BK249 := n4_; have BK274 := n5_; have HB := n6_; have BK287 := n7_; have GW287 := n8_; have GE287 := n9_; have NB249_287 := n10_; have NB287_249 := n11_; have NB274_287 := n12_; have NB287_274 := n13_; clear n0_ n1_ n2_ n3_ n4_ n5_ n6_ n7_ n8_ n9_ n10_ n11_ n12_ n13_; clear hb hbox hg; have hnb61 := NB287_249.out; have hnc61 := NB249_287.out; have hnb62 := NB287_274.out; have hnc62 := NB274_287.out; have hcz63_0 : w60.cell? ⟨gb287, 0, none⟩ = some (.int .i64 0) := (blk_cell BK287.out 0).trans rfl; have hcz63_1 : w60.cell? ⟨gb287, 1, none⟩ = some (.int .u64 0) := (blk_cell BK287.out 1).trans rfl; have hcz63_2 : w60.cell? ⟨gb287, 2, none⟩ = some (.int .u64 0) := (blk_cell BK287.out 2).trans rfl; have hcz63_3 : w60.cell? ⟨gb287, 3, none⟩ = some (.slice none 0 0) := (blk_cell BK287.out 3).trans rfl; have hfz63_0 := blk_frozen BK287.out 0; have hfz63_1 := blk_frozen BK287.out 1; have hfz63_2 := blk_frozen BK287.out 2; have hfz63_3 := blk_frozen BK287.out 3; obtain ⟨Ao64, co64, eo64⟩ := Kd.R_slice HO284.out; subst eo64))
                          (try simp only [Act.put, List.setIfInBounds_toArray, List.set_cons_zero, List.set_cons_succ])
                          go_cut [118] (fun v118 wc => ∃ (kq : Nat) (x118_45 : Bool), v118 = .bool x118_45 ∧ Aside0 (tiklaw15_RecBack.j2 kq a4 a5 t253 x118_45 a0_0 a0_1 a0_2 l0_3 = some r) ∧ Aside0 (kq ≤ kj30) ∧ Aside0 (Kd.R (Kd.int .u8) 5 wc w.heap.size (fun k_ => some k_ ≠ ((.slice Ao56 t269.length co56) : Value).ownBlock ∧ some k_ ≠ ((.slice Ao64 t282.length co64) : Value).ownBlock) (.slice Ao49 t253.length co49) t253) ∧ Aside0 (Kd.R (Kd.int .u8) 5 wc w.heap.size (fun k_ => some k_ ≠ ((.slice Ao49 t253.length co49) : Value).ownBlock ∧ some k_ ≠ ((.slice Ao64 t282.length co64) : Value).ownBlock) (.slice Ao56 t269.length co56) t269) ∧ Aside0 (Kd.R (Kd.int .u8) 5 wc w.heap.size (fun k_ => some k_ ≠ ((.slice Ao49 t253.length co49) : Value).ownBlock ∧ some k_ ≠ ((.slice Ao56 t269.length co56) : Value).ownBlock) (.slice Ao64 t282.length co64) t282) ∧ Aside0 (wc.heap[gb249]? = some (.cells #[.int .i64 a0_0, .int .u64 a0_1, .int .u64 a0_2, (.slice A0_3 l0_3.length c0_3)] 25 (0, 0))) ∧ Aside0 (wc.heap[gb274]? = some (.cells #[.int .i64 t266, .int .u64 t267, .int .u64 t268, (.slice Ao56 t269.length co56)] 25 (0, 0))) ∧ Aside0 (wc.heap[gb287]? = some (.cells #[.int .i64 t279, .int .u64 t280, .int .u64 t281, (.slice Ao64 t282.length co64)] 25 (0, 0))) ∧ Aside0 (Below w.heap.size w wc))
                          case first =>
                            have H := HC46.out
                            clear HC46
                            by_cases c65 : t273 = 0
                            · rw [if_pos c65] at H
                              have c65b0 : (t273 == 0) = true := beq_iff_eq.mpr c65
                              have c65b1 : (t273 != 0) = false := bne_eq_false_iff_eq.mpr c65
                              clear c65
                              (first | rw [c65b0] | (simp only [i64_w, i32_w]; rw [c65b0]) | skip)
                              replace H := Option.bind_eq_some_iff.mp H
                              obtain ⟨t288, A660, H⟩ := H
                              replace H : (if t288 = true then (if t272 = (wrap64 ((l1.length : Int) + (t253.length : Int))) then (tiklaw15_RecBack.j2 kj30 a4 a5 t253 (t286 != 3) a0_0 a0_1 a0_2 l0_3) else (tiklaw15_RecBack.j2 kj30 a4 a5 t253 true a0_0 a0_1 a0_2 l0_3)) else (tiklaw15_RecBack.j2 kj30 a4 a5 t253 true a0_0 a0_1 a0_2 l0_3)) = some r := H
                              have A66 := Aside0.mk A660
                              clear A660
                              by_cases c67 : t288 = true
                              · subst c67
                                have H1 : (if t272 = (wrap64 ((l1.length : Int) + (t253.length : Int))) then (tiklaw15_RecBack.j2 kj30 a4 a5 t253 (t286 != 3) a0_0 a0_1 a0_2 l0_3) else (tiklaw15_RecBack.j2 kj30 a4 a5 t253 true a0_0 a0_1 a0_2 l0_3)) = some r := by rw [if_pos rfl] at H; exact H
                                clear H
                                have H := H1
                                clear H1
                                by_cases c68 : t272 = (wrap64 ((l1.length : Int) + (t253.length : Int)))
                                · rw [if_pos c68] at H
                                  have c68b0 : (t272 == (wrap64 ((l1.length : Int) + (t253.length : Int)))) = true := beq_iff_eq.mpr c68
                                  have c68b1 : (t272 != (wrap64 ((l1.length : Int) + (t253.length : Int)))) = false := bne_eq_false_iff_eq.mpr c68
                                  clear c68
                                  have H' := Aside0.mk H
                                  clear H
                                  have hnb69 := NB249_274.out
                                  have hnc69 := NB274_249.out
                                  have hnb70 := NB249_287.out
                                  have hnc70 := NB287_249.out
                                  have hcz71_0 : w60.cell? ⟨gb249, 0, none⟩ = some (.int .i64 a0_0) := (blk_cell BK249.out 0).trans rfl
                                  have hcz71_1 : w60.cell? ⟨gb249, 1, none⟩ = some (.int .u64 a0_1) := (blk_cell BK249.out 1).trans rfl
                                  have hcz71_2 : w60.cell? ⟨gb249, 2, none⟩ = some (.int .u64 a0_2) := (blk_cell BK249.out 2).trans rfl
                                  have hcz71_3 : w60.cell? ⟨gb249, 3, none⟩ = some (.slice A0_3 l0_3.length c0_3) := (blk_cell BK249.out 3).trans rfl
                                  have hfz71_0 := blk_frozen BK249.out 0
                                  have hfz71_1 := blk_frozen BK249.out 1
                                  have hfz71_2 := blk_frozen BK249.out 2
                                  have hfz71_3 := blk_frozen BK249.out 3
                                  have hnb72 := NB274_287.out
                                  have hnc72 := NB287_274.out
                                  have hcz73_0 : w60.cell? ⟨gb274, 0, none⟩ = some (.int .i64 t266) := (blk_cell BK274.out 0).trans rfl
                                  have hcz73_1 : w60.cell? ⟨gb274, 1, none⟩ = some (.int .u64 t267) := (blk_cell BK274.out 1).trans rfl
                                  have hcz73_2 : w60.cell? ⟨gb274, 2, none⟩ = some (.int .u64 t268) := (blk_cell BK274.out 2).trans rfl
                                  have hcz73_3 : w60.cell? ⟨gb274, 3, none⟩ = some (.slice Ao56 t269.length co56) := (blk_cell BK274.out 3).trans rfl
                                  have hfz73_0 := blk_frozen BK274.out 0
                                  have hfz73_1 := blk_frozen BK274.out 1
                                  have hfz73_2 := blk_frozen BK274.out 2
                                  have hfz73_3 := blk_frozen BK274.out 3
                                  go_wp2_with (first | (go_at_call 20; (with_reducible refine (rec_Same.calls a0_0 a0_1 a0_2 _ _ l0_3 t266 t267 t268 _ _ t269 true _ ?side1 ?side2 ?side3 ?side4 A66.out).mono ?_); (case side1 => exact Kd.C_below HR0_3.out (by repeat (first | (with_reducible first | exact HB.out | apply below_alloc | apply pw_below_drewN | apply below_drew1 | refine below_set ?_ GE249.out | refine below_set ?_ GE274.out | refine below_set ?_ GE287.out) | exact HB.out))); (case side2 => exact HC0_3.out); (case side3 => refine (Kd.R_reads' (e := 5) (base := w.heap.size) (ok := fun k_ => ((some k_ ≠ (.slice Ao49 t253.length co49 : Value).ownBlock ∧ some k_ ≠ (.slice Ao51 y263.length co51 : Value).ownBlock) ∧ some k_ ≠ (.slice Ao64 t282.length co64 : Value).ownBlock)) (n := t269.length) (c := co56) ?_).2.2; exact (by (with_reducible repeat (first | apply Kd.R_alloc | apply Kd.R_drewN | apply Kd.R_drew)); exact (Kd.R_mono (Kd.R_far (p := ⟨gb287, 3, none⟩) (Kd.R_far (p := ⟨gb287, 2, none⟩) (Kd.R_far (p := ⟨gb287, 1, none⟩) (Kd.R_far (p := ⟨gb287, 0, none⟩) (Kd.R_types HO271.out BK287.out (by decide)) (fun _ hk => hk.2) (.int .i64 t279)) (fun _ hk => hk.2) (.int .u64 t280)) (fun _ hk => hk.2) (.int .u64 t281)) (fun _ hk => hk.2) (.slice Ao64 t282.length co64)) (fun _ h_ => h_.1)))); (case side4 => exact (Kd.R_reads' HO271.out).2.1); rintro e w74 ⟨rfl, hb⟩; have n0_ := Aside0.mk (Kd.R_below (by (with_reducible repeat (first | apply Kd.R_alloc | apply Kd.R_drewN | apply Kd.R_drew)); exact (Kd.R_mono (Kd.R_far (p := ⟨gb287, 3, none⟩) (Kd.R_far (p := ⟨gb287, 2, none⟩) (Kd.R_far (p := ⟨gb287, 1, none⟩) (Kd.R_far (p := ⟨gb287, 0, none⟩) (Kd.R_types HO_13.out BK287.out (by decide)) (fun _ hk => hk.2) (.int .i64 t279)) (fun _ hk => hk.2) (.int .u64 t280)) (fun _ hk => hk.2) (.int .u64 t281)) (fun _ hk => hk.2) (.slice Ao64 t282.length co64)) (fun _ h_ => h_.1))) hb); have n1_ := Aside0.mk (Kd.R_below (by (with_reducible repeat (first | apply Kd.R_alloc | apply Kd.R_drewN | apply Kd.R_drew)); exact (Kd.R_mono (Kd.R_far (p := ⟨gb287, 3, none⟩) (Kd.R_far (p := ⟨gb287, 2, none⟩) (Kd.R_far (p := ⟨gb287, 1, none⟩) (Kd.R_far (p := ⟨gb287, 0, none⟩) (Kd.R_types HO265.out BK287.out (by decide)) (fun _ hk => hk.2) (.int .i64 t279)) (fun _ hk => hk.2) (.int .u64 t280)) (fun _ hk => hk.2) (.int .u64 t281)) (fun _ hk => hk.2) (.slice Ao64 t282.length co64)) (fun _ h_ => h_.1))) hb); have n2_ := Aside0.mk (Kd.R_below (by (with_reducible repeat (first | apply Kd.R_alloc | apply Kd.R_drewN | apply Kd.R_drew)); exact (Kd.R_mono (Kd.R_far (p := ⟨gb287, 3, none⟩) (Kd.R_far (p := ⟨gb287, 2, none⟩) (Kd.R_far (p := ⟨gb287, 1, none⟩) (Kd.R_far (p := ⟨gb287, 0, none⟩) (Kd.R_types HO271.out BK287.out (by decide)) (fun _ hk => hk.2) (.int .i64 t279)) (fun _ hk => hk.2) (.int .u64 t280)) (fun _ hk => hk.2) (.int .u64 t281)) (fun _ hk => hk.2) (.slice Ao64 t282.length co64)) (fun _ h_ => h_.1))) hb); have n3_ := Aside0.mk (Kd.R_below (by (with_reducible repeat (first | apply Kd.R_alloc | apply Kd.R_drewN | apply Kd.R_drew)); exact (Kd.R_mono (Kd.R_far (p := ⟨gb287, 3, none⟩) (Kd.R_far (p := ⟨gb287, 2, none⟩) (Kd.R_far (p := ⟨gb287, 1, none⟩) (Kd.R_far (p := ⟨gb287, 0, none⟩) (Kd.R_types HO284.out BK287.out (by decide)) (fun _ hk => hk.2) (.int .i64 t279)) (fun _ hk => hk.2) (.int .u64 t280)) (fun _ hk => hk.2) (.int .u64 t281)) (fun _ hk => hk.2) (.slice Ao64 t282.length co64)) (fun _ h_ => h_.1))) hb); have n4_ := Aside0.mk (blk_below (g := gb249) (o := .cells #[.int .i64 a0_0, .int .u64 a0_1, .int .u64 a0_2, .slice A0_3 l0_3.length c0_3] 25 (0, 0)) (by (with_reducible repeat (first | refine blk_drewN ?_ _ | refine blk_drew ?_ | refine blk_alloc ?_ _)); refine blk_far ?_ NB249_287.out _; (with_reducible repeat (first | refine blk_drewN ?_ _ | refine blk_drew ?_ | refine blk_alloc ?_ _)); refine blk_far ?_ NB249_287.out _; (with_reducible repeat (first | refine blk_drewN ?_ _ | refine blk_drew ?_ | refine blk_alloc ?_ _)); refine blk_far ?_ NB249_287.out _; (with_reducible repeat (first | refine blk_drewN ?_ _ | refine blk_drew ?_ | refine blk_alloc ?_ _)); refine blk_far ?_ NB249_287.out _; (with_reducible repeat (first | refine blk_drewN ?_ _ | refine blk_drew ?_ | refine blk_alloc ?_ _)); exact BK249.out) hb); have n5_ := Aside0.mk (blk_below (g := gb274) (o := .cells #[.int .i64 t266, .int .u64 t267, .int .u64 t268, .slice Ao56 t269.length co56] 25 (0, 0)) (by (with_reducible repeat (first | refine blk_drewN ?_ _ | refine blk_drew ?_ | refine blk_alloc ?_ _)); refine blk_far ?_ NB274_287.out _; (with_reducible repeat (first | refine blk_drewN ?_ _ | refine blk_drew ?_ | refine blk_alloc ?_ _)); refine blk_far ?_ NB274_287.out _; (with_reducible repeat (first | refine blk_drewN ?_ _ | refine blk_drew ?_ | refine blk_alloc ?_ _)); refine blk_far ?_ NB274_287.out _; (with_reducible repeat (first | refine blk_drewN ?_ _ | refine blk_drew ?_ | refine blk_alloc ?_ _)); refine blk_far ?_ NB274_287.out _; (with_reducible repeat (first | refine blk_drewN ?_ _ | refine blk_drew ?_ | refine blk_alloc ?_ _)); exact BK274.out) hb); have n6_ := Aside0.mk (blk_below (g := gb287) (o := .cells #[.int .i64 t279, .int .u64 t280, .int .u64 t281, .slice Ao64 t282.length co64] 25 (0, 0)) (by (with_reducible repeat (first | refine blk_drewN ?_ _ | refine blk_drew ?_ | refine blk_alloc ?_ _)); refine blk_put (cs := #[.int .i64 t279, .int .u64 t280, .int .u64 t281, .slice none 0 0]) ?_ 3 _ rfl; (with_reducible repeat (first | refine blk_drewN ?_ _ | refine blk_drew ?_ | refine blk_alloc ?_ _)); refine blk_put (cs := #[.int .i64 t279, .int .u64 t280, .int .u64 0, .slice none 0 0]) ?_ 2 _ rfl; (with_reducible repeat (first | refine blk_drewN ?_ _ | refine blk_drew ?_ | refine blk_alloc ?_ _)); refine blk_put (cs := #[.int .i64 t279, .int .u64 0, .int .u64 0, .slice none 0 0]) ?_ 1 _ rfl; (with_reducible repeat (first | refine blk_drewN ?_ _ | refine blk_drew ?_ | refine blk_alloc ?_ _)); refine blk_put (cs := #[.int .i64 0, .int .u64 0, .int .u64 0, .slice none 0 0]) ?_ 0 _ rfl; (with_reducible repeat (first | refine blk_drewN ?_ _ | refine blk_drew ?_ | refine blk_alloc ?_ _)); exact BK287.out) hb); have n7_ := Aside0.mk (below_step (by repeat (first | (with_reducible first | exact HB.out | apply below_alloc | apply pw_below_drewN | apply below_drew1 | refine below_set ?_ GE249.out | refine below_set ?_ GE274.out | refine below_set ?_ GE287.out) | exact HB.out)) hb); clear HO_13; clear HO265; clear HO271; clear HO284; clear BK249; clear BK274; clear BK287; clear HB; have HO_13 := n0_; have HO265 := n1_; have HO271 := n2_; have HO284 := n3_; have BK249 := n4_; have BK274 := n5_; have BK287 := n6_; have HB := n7_; clear n0_ n1_ n2_ n3_ n4_ n5_ n6_ n7_; (try clear hb); (try clear hb2); (try clear hk); (try clear hi)))
                                  go_meet
                                  case rel => exact ⟨_, ((t286 != 3)), (by first | rfl | (simp; done) | (simp [*]; done)), H', ⟨by have := HJ8.out; have := HJ30.out; first | omega | exact Nat.le_refl _⟩, ⟨by (with_reducible repeat (first | apply Kd.R_alloc | apply Kd.R_drewN | apply Kd.R_drew)); exact Kd.R_mono HO_13.out (fun _ hk => ⟨hk.1.2, hk.2⟩)⟩, ⟨by (with_reducible repeat (first | apply Kd.R_alloc | apply Kd.R_drewN | apply Kd.R_drew)); exact Kd.R_mono HO271.out (fun _ hk => ⟨hk.1.1, hk.2⟩)⟩, ⟨by (with_reducible repeat (first | apply Kd.R_alloc | apply Kd.R_drewN | apply Kd.R_drew)); exact Kd.R_mono HO284.out (fun _ hk => ⟨hk.1.1.2, hk.2⟩)⟩, ⟨by (with_reducible repeat (first | refine blk_drewN ?_ _ | refine blk_drew ?_ | refine blk_alloc ?_ _)); exact BK249.out⟩, ⟨by (with_reducible repeat (first | refine blk_drewN ?_ _ | refine blk_drew ?_ | refine blk_alloc ?_ _)); exact BK274.out⟩, ⟨by (with_reducible repeat (first | refine blk_drewN ?_ _ | refine blk_drew ?_ | refine blk_alloc ?_ _)); exact BK287.out⟩, ⟨by repeat (first | (with_reducible first | exact HB.out | apply below_alloc | apply pw_below_drewN | apply below_drew1 | refine below_set ?_ GE249.out | refine below_set ?_ GE274.out | refine below_set ?_ GE287.out) | exact HB.out)⟩⟩
                                · rw [if_neg c68] at H
                                  have c68b0 : (t272 == (wrap64 ((l1.length : Int) + (t253.length : Int)))) = false := beq_eq_false_iff_ne.mpr c68
                                  have c68b1 : (t272 != (wrap64 ((l1.length : Int) + (t253.length : Int)))) = true := bne_iff_ne.mpr c68
                                  have H' := Aside0.mk H
                                  clear H
                                  have hnb75 := NB249_274.out
                                  have hnc75 := NB274_249.out
                                  have hnb76 := NB249_287.out
                                  have hnc76 := NB287_249.out
                                  have hcz77_0 : w60.cell? ⟨gb249, 0, none⟩ = some (.int .i64 a0_0) := (blk_cell BK249.out 0).trans rfl
                                  have hcz77_1 : w60.cell? ⟨gb249, 1, none⟩ = some (.int .u64 a0_1) := (blk_cell BK249.out 1).trans rfl
                                  have hcz77_2 : w60.cell? ⟨gb249, 2, none⟩ = some (.int .u64 a0_2) := (blk_cell BK249.out 2).trans rfl
                                  have hcz77_3 : w60.cell? ⟨gb249, 3, none⟩ = some (.slice A0_3 l0_3.length c0_3) := (blk_cell BK249.out 3).trans rfl
                                  have hfz77_0 := blk_frozen BK249.out 0
                                  have hfz77_1 := blk_frozen BK249.out 1
                                  have hfz77_2 := blk_frozen BK249.out 2
                                  have hfz77_3 := blk_frozen BK249.out 3
                                  have hnb78 := NB274_287.out
                                  have hnc78 := NB287_274.out
                                  have hcz79_0 : w60.cell? ⟨gb274, 0, none⟩ = some (.int .i64 t266) := (blk_cell BK274.out 0).trans rfl
                                  have hcz79_1 : w60.cell? ⟨gb274, 1, none⟩ = some (.int .u64 t267) := (blk_cell BK274.out 1).trans rfl
                                  have hcz79_2 : w60.cell? ⟨gb274, 2, none⟩ = some (.int .u64 t268) := (blk_cell BK274.out 2).trans rfl
                                  have hcz79_3 : w60.cell? ⟨gb274, 3, none⟩ = some (.slice Ao56 t269.length co56) := (blk_cell BK274.out 3).trans rfl
                                  have hfz79_0 := blk_frozen BK274.out 0
                                  have hfz79_1 := blk_frozen BK274.out 1
                                  have hfz79_2 := blk_frozen BK274.out 2
                                  have hfz79_3 := blk_frozen BK274.out 3
                                  go_wp2_with (first | (go_at_call 20; (with_reducible refine (rec_Same.calls a0_0 a0_1 a0_2 _ _ l0_3 t266 t267 t268 _ _ t269 true _ ?side1 ?side2 ?side3 ?side4 A66.out).mono ?_); (case side1 => exact Kd.C_below HR0_3.out (by repeat (first | (with_reducible first | exact HB.out | apply below_alloc | apply pw_below_drewN | apply below_drew1 | refine below_set ?_ GE249.out | refine below_set ?_ GE274.out | refine below_set ?_ GE287.out) | exact HB.out))); (case side2 => exact HC0_3.out); (case side3 => refine (Kd.R_reads' (e := 5) (base := w.heap.size) (ok := fun k_ => ((some k_ ≠ (.slice Ao49 t253.length co49 : Value).ownBlock ∧ some k_ ≠ (.slice Ao51 y263.length co51 : Value).ownBlock) ∧ some k_ ≠ (.slice Ao64 t282.length co64 : Value).ownBlock)) (n := t269.length) (c := co56) ?_).2.2; exact (by (with_reducible repeat (first | apply Kd.R_alloc | apply Kd.R_drewN | apply Kd.R_drew)); exact (Kd.R_mono (Kd.R_far (p := ⟨gb287, 3, none⟩) (Kd.R_far (p := ⟨gb287, 2, none⟩) (Kd.R_far (p := ⟨gb287, 1, none⟩) (Kd.R_far (p := ⟨gb287, 0, none⟩) (Kd.R_types HO271.out BK287.out (by decide)) (fun _ hk => hk.2) (.int .i64 t279)) (fun _ hk => hk.2) (.int .u64 t280)) (fun _ hk => hk.2) (.int .u64 t281)) (fun _ hk => hk.2) (.slice Ao64 t282.length co64)) (fun _ h_ => h_.1)))); (case side4 => exact (Kd.R_reads' HO271.out).2.1); rintro e w80 ⟨rfl, hb⟩; have n0_ := Aside0.mk (Kd.R_below (by (with_reducible repeat (first | apply Kd.R_alloc | apply Kd.R_drewN | apply Kd.R_drew)); exact (Kd.R_mono (Kd.R_far (p := ⟨gb287, 3, none⟩) (Kd.R_far (p := ⟨gb287, 2, none⟩) (Kd.R_far (p := ⟨gb287, 1, none⟩) (Kd.R_far (p := ⟨gb287, 0, none⟩) (Kd.R_types HO_13.out BK287.out (by decide)) (fun _ hk => hk.2) (.int .i64 t279)) (fun _ hk => hk.2) (.int .u64 t280)) (fun _ hk => hk.2) (.int .u64 t281)) (fun _ hk => hk.2) (.slice Ao64 t282.length co64)) (fun _ h_ => h_.1))) hb); have n1_ := Aside0.mk (Kd.R_below (by (with_reducible repeat (first | apply Kd.R_alloc | apply Kd.R_drewN | apply Kd.R_drew)); exact (Kd.R_mono (Kd.R_far (p := ⟨gb287, 3, none⟩) (Kd.R_far (p := ⟨gb287, 2, none⟩) (Kd.R_far (p := ⟨gb287, 1, none⟩) (Kd.R_far (p := ⟨gb287, 0, none⟩) (Kd.R_types HO265.out BK287.out (by decide)) (fun _ hk => hk.2) (.int .i64 t279)) (fun _ hk => hk.2) (.int .u64 t280)) (fun _ hk => hk.2) (.int .u64 t281)) (fun _ hk => hk.2) (.slice Ao64 t282.length co64)) (fun _ h_ => h_.1))) hb); have n2_ := Aside0.mk (Kd.R_below (by (with_reducible repeat (first | apply Kd.R_alloc | apply Kd.R_drewN | apply Kd.R_drew)); exact (Kd.R_mono (Kd.R_far (p := ⟨gb287, 3, none⟩) (Kd.R_far (p := ⟨gb287, 2, none⟩) (Kd.R_far (p := ⟨gb287, 1, none⟩) (Kd.R_far (p := ⟨gb287, 0, none⟩) (Kd.R_types HO271.out BK287.out (by decide)) (fun _ hk => hk.2) (.int .i64 t279)) (fun _ hk => hk.2) (.int .u64 t280)) (fun _ hk => hk.2) (.int .u64 t281)) (fun _ hk => hk.2) (.slice Ao64 t282.length co64)) (fun _ h_ => h_.1))) hb); have n3_ := Aside0.mk (Kd.R_below (by (with_reducible repeat (first | apply Kd.R_alloc | apply Kd.R_drewN | apply Kd.R_drew)); exact (Kd.R_mono (Kd.R_far (p := ⟨gb287, 3, none⟩) (Kd.R_far (p := ⟨gb287, 2, none⟩) (Kd.R_far (p := ⟨gb287, 1, none⟩) (Kd.R_far (p := ⟨gb287, 0, none⟩) (Kd.R_types HO284.out BK287.out (by decide)) (fun _ hk => hk.2) (.int .i64 t279)) (fun _ hk => hk.2) (.int .u64 t280)) (fun _ hk => hk.2) (.int .u64 t281)) (fun _ hk => hk.2) (.slice Ao64 t282.length co64)) (fun _ h_ => h_.1))) hb); have n4_ := Aside0.mk (blk_below (g := gb249) (o := .cells #[.int .i64 a0_0, .int .u64 a0_1, .int .u64 a0_2, .slice A0_3 l0_3.length c0_3] 25 (0, 0)) (by (with_reducible repeat (first | refine blk_drewN ?_ _ | refine blk_drew ?_ | refine blk_alloc ?_ _)); refine blk_far ?_ NB249_287.out _; (with_reducible repeat (first | refine blk_drewN ?_ _ | refine blk_drew ?_ | refine blk_alloc ?_ _)); refine blk_far ?_ NB249_287.out _; (with_reducible repeat (first | refine blk_drewN ?_ _ | refine blk_drew ?_ | refine blk_alloc ?_ _)); refine blk_far ?_ NB249_287.out _; (with_reducible repeat (first | refine blk_drewN ?_ _ | refine blk_drew ?_ | refine blk_alloc ?_ _)); refine blk_far ?_ NB249_287.out _; (with_reducible repeat (first | refine blk_drewN ?_ _ | refine blk_drew ?_ | refine blk_alloc ?_ _)); exact BK249.out) hb); have n5_ := Aside0.mk (blk_below (g := gb274) (o := .cells #[.int .i64 t266, .int .u64 t267, .int .u64 t268, .slice Ao56 t269.length co56] 25 (0, 0)) (by (with_reducible repeat (first | refine blk_drewN ?_ _ | refine blk_drew ?_ | refine blk_alloc ?_ _)); refine blk_far ?_ NB274_287.out _; (with_reducible repeat (first | refine blk_drewN ?_ _ | refine blk_drew ?_ | refine blk_alloc ?_ _)); refine blk_far ?_ NB274_287.out _; (with_reducible repeat (first | refine blk_drewN ?_ _ | refine blk_drew ?_ | refine blk_alloc ?_ _)); refine blk_far ?_ NB274_287.out _; (with_reducible repeat (first | refine blk_drewN ?_ _ | refine blk_drew ?_ | refine blk_alloc ?_ _)); refine blk_far ?_ NB274_287.out _; (with_reducible repeat (first | refine blk_drewN ?_ _ | refine blk_drew ?_ | refine blk_alloc ?_ _)); exact BK274.out) hb); have n6_ := Aside0.mk (blk_below (g := gb287) (o := .cells #[.int .i64 t279, .int .u64 t280, .int .u64 t281, .slice Ao64 t282.length co64] 25 (0, 0)) (by (with_reducible repeat (first | refine blk_drewN ?_ _ | refine blk_drew ?_ | refine blk_alloc ?_ _)); refine blk_put (cs := #[.int .i64 t279, .int .u64 t280, .int .u64 t281, .slice none 0 0]) ?_ 3 _ rfl; (with_reducible repeat (first | refine blk_drewN ?_ _ | refine blk_drew ?_ | refine blk_alloc ?_ _)); refine blk_put (cs := #[.int .i64 t279, .int .u64 t280, .int .u64 0, .slice none 0 0]) ?_ 2 _ rfl; (with_reducible repeat (first | refine blk_drewN ?_ _ | refine blk_drew ?_ | refine blk_alloc ?_ _)); refine blk_put (cs := #[.int .i64 t279, .int .u64 0, .int .u64 0, .slice none 0 0]) ?_ 1 _ rfl; (with_reducible repeat (first | refine blk_drewN ?_ _ | refine blk_drew ?_ | refine blk_alloc ?_ _)); refine blk_put (cs := #[.int .i64 0, .int .u64 0, .int .u64 0, .slice none 0 0]) ?_ 0 _ rfl; (with_reducible repeat (first | refine blk_drewN ?_ _ | refine blk_drew ?_ | refine blk_alloc ?_ _)); exact BK287.out) hb); have n7_ := Aside0.mk (below_step (by repeat (first | (with_reducible first | exact HB.out | apply below_alloc | apply pw_below_drewN | apply below_drew1 | refine below_set ?_ GE249.out | refine below_set ?_ GE274.out | refine below_set ?_ GE287.out) | exact HB.out)) hb); clear HO_13; clear HO265; clear HO271; clear HO284; clear BK249; clear BK274; clear BK287; clear HB; have HO_13 := n0_; have HO265 := n1_; have HO271 := n2_; have HO284 := n3_; have BK249 := n4_; have BK274 := n5_; have BK287 := n6_; have HB := n7_; clear n0_ n1_ n2_ n3_ n4_ n5_ n6_ n7_; (try clear hb); (try clear hb2); (try clear hk); (try clear hi)))
                                  go_meet
                                  case rel => exact ⟨_, (true), (by first | rfl | (simp; done) | (simp [*]; done)), H', ⟨by have := HJ8.out; have := HJ30.out; first | omega | exact Nat.le_refl _⟩, ⟨by (with_reducible repeat (first | apply Kd.R_alloc | apply Kd.R_drewN | apply Kd.R_drew)); exact Kd.R_mono HO_13.out (fun _ hk => ⟨hk.1.2, hk.2⟩)⟩, ⟨by (with_reducible repeat (first | apply Kd.R_alloc | apply Kd.R_drewN | apply Kd.R_drew)); exact Kd.R_mono HO271.out (fun _ hk => ⟨hk.1.1, hk.2⟩)⟩, ⟨by (with_reducible repeat (first | apply Kd.R_alloc | apply Kd.R_drewN | apply Kd.R_drew)); exact Kd.R_mono HO284.out (fun _ hk => ⟨hk.1.1.2, hk.2⟩)⟩, ⟨by (with_reducible repeat (first | refine blk_drewN ?_ _ | refine blk_drew ?_ | refine blk_alloc ?_ _)); exact BK249.out⟩, ⟨by (with_reducible repeat (first | refine blk_drewN ?_ _ | refine blk_drew ?_ | refine blk_alloc ?_ _)); exact BK274.out⟩, ⟨by (with_reducible repeat (first | refine blk_drewN ?_ _ | refine blk_drew ?_ | refine blk_alloc ?_ _)); exact BK287.out⟩, ⟨by repeat (first | (with_reducible first | exact HB.out | apply below_alloc | apply pw_below_drewN | apply below_drew1 | refine below_set ?_ GE249.out | refine below_set ?_ GE274.out | refine below_set ?_ GE287.out) | exact HB.out)⟩⟩
                              · replace c67 := Bool.eq_false_iff.mpr c67
                                subst c67
                                have H1 : (tiklaw15_RecBack.j2 kj30 a4 a5 t253 true a0_0 a0_1 a0_2 l0_3) = some r := by rw [if_neg (show ¬ (false = true) by decide)] at H; exact H
                                clear H
                                have H := H1
                                clear H1
                                have H' := Aside0.mk H
                                clear H
                                have hnb81 := NB249_274.out
                                have hnc81 := NB274_249.out
                                have hnb82 := NB249_287.out
                                have hnc82 := NB287_249.out
                                have hcz83_0 : w60.cell? ⟨gb249, 0, none⟩ = some (.int .i64 a0_0) := (blk_cell BK249.out 0).trans rfl
                                have hcz83_1 : w60.cell? ⟨gb249, 1, none⟩ = some (.int .u64 a0_1) := (blk_cell BK249.out 1).trans rfl
                                have hcz83_2 : w60.cell? ⟨gb249, 2, none⟩ = some (.int .u64 a0_2) := (blk_cell BK249.out 2).trans rfl
                                have hcz83_3 : w60.cell? ⟨gb249, 3, none⟩ = some (.slice A0_3 l0_3.length c0_3) := (blk_cell BK249.out 3).trans rfl
                                have hfz83_0 := blk_frozen BK249.out 0
                                have hfz83_1 := blk_frozen BK249.out 1
                                have hfz83_2 := blk_frozen BK249.out 2
                                have hfz83_3 := blk_frozen BK249.out 3
                                have hnb84 := NB274_287.out
                                have hnc84 := NB287_274.out
                                have hcz85_0 : w60.cell? ⟨gb274, 0, none⟩ = some (.int .i64 t266) := (blk_cell BK274.out 0).trans rfl
                                have hcz85_1 : w60.cell? ⟨gb274, 1, none⟩ = some (.int .u64 t267) := (blk_cell BK274.out 1).trans rfl
                                have hcz85_2 : w60.cell? ⟨gb274, 2, none⟩ = some (.int .u64 t268) := (blk_cell BK274.out 2).trans rfl
                                have hcz85_3 : w60.cell? ⟨gb274, 3, none⟩ = some (.slice Ao56 t269.length co56) := (blk_cell BK274.out 3).trans rfl
                                have hfz85_0 := blk_frozen BK274.out 0
                                have hfz85_1 := blk_frozen BK274.out 1
                                have hfz85_2 := blk_frozen BK274.out 2
                                have hfz85_3 := blk_frozen BK274.out 3
                                go_wp2_with (first | (go_at_call 20; (with_reducible refine (rec_Same.calls a0_0 a0_1 a0_2 _ _ l0_3 t266 t267 t268 _ _ t269 false _ ?side1 ?side2 ?side3 ?side4 A66.out).mono ?_); (case side1 => exact Kd.C_below HR0_3.out (by repeat (first | (with_reducible first | exact HB.out | apply below_alloc | apply pw_below_drewN | apply below_drew1 | refine below_set ?_ GE249.out | refine below_set ?_ GE274.out | refine below_set ?_ GE287.out) | exact HB.out))); (case side2 => exact HC0_3.out); (case side3 => refine (Kd.R_reads' (e := 5) (base := w.heap.size) (ok := fun k_ => ((some k_ ≠ (.slice Ao49 t253.length co49 : Value).ownBlock ∧ some k_ ≠ (.slice Ao51 y263.length co51 : Value).ownBlock) ∧ some k_ ≠ (.slice Ao64 t282.length co64 : Value).ownBlock)) (n := t269.length) (c := co56) ?_).2.2; exact (by (with_reducible repeat (first | apply Kd.R_alloc | apply Kd.R_drewN | apply Kd.R_drew)); exact (Kd.R_mono (Kd.R_far (p := ⟨gb287, 3, none⟩) (Kd.R_far (p := ⟨gb287, 2, none⟩) (Kd.R_far (p := ⟨gb287, 1, none⟩) (Kd.R_far (p := ⟨gb287, 0, none⟩) (Kd.R_types HO271.out BK287.out (by decide)) (fun _ hk => hk.2) (.int .i64 t279)) (fun _ hk => hk.2) (.int .u64 t280)) (fun _ hk => hk.2) (.int .u64 t281)) (fun _ hk => hk.2) (.slice Ao64 t282.length co64)) (fun _ h_ => h_.1)))); (case side4 => exact (Kd.R_reads' HO271.out).2.1); rintro e w86 ⟨rfl, hb⟩; have n0_ := Aside0.mk (Kd.R_below (by (with_reducible repeat (first | apply Kd.R_alloc | apply Kd.R_drewN | apply Kd.R_drew)); exact (Kd.R_mono (Kd.R_far (p := ⟨gb287, 3, none⟩) (Kd.R_far (p := ⟨gb287, 2, none⟩) (Kd.R_far (p := ⟨gb287, 1, none⟩) (Kd.R_far (p := ⟨gb287, 0, none⟩) (Kd.R_types HO_13.out BK287.out (by decide)) (fun _ hk => hk.2) (.int .i64 t279)) (fun _ hk => hk.2) (.int .u64 t280)) (fun _ hk => hk.2) (.int .u64 t281)) (fun _ hk => hk.2) (.slice Ao64 t282.length co64)) (fun _ h_ => h_.1))) hb); have n1_ := Aside0.mk (Kd.R_below (by (with_reducible repeat (first | apply Kd.R_alloc | apply Kd.R_drewN | apply Kd.R_drew)); exact (Kd.R_mono (Kd.R_far (p := ⟨gb287, 3, none⟩) (Kd.R_far (p := ⟨gb287, 2, none⟩) (Kd.R_far (p := ⟨gb287, 1, none⟩) (Kd.R_far (p := ⟨gb287, 0, none⟩) (Kd.R_types HO265.out BK287.out (by decide)) (fun _ hk => hk.2) (.int .i64 t279)) (fun _ hk => hk.2) (.int .u64 t280)) (fun _ hk => hk.2) (.int .u64 t281)) (fun _ hk => hk.2) (.slice Ao64 t282.length co64)) (fun _ h_ => h_.1))) hb); have n2_ := Aside0.mk (Kd.R_below (by (with_reducible repeat (first | apply Kd.R_alloc | apply Kd.R_drewN | apply Kd.R_drew)); exact (Kd.R_mono (Kd.R_far (p := ⟨gb287, 3, none⟩) (Kd.R_far (p := ⟨gb287, 2, none⟩) (Kd.R_far (p := ⟨gb287, 1, none⟩) (Kd.R_far (p := ⟨gb287, 0, none⟩) (Kd.R_types HO271.out BK287.out (by decide)) (fun _ hk => hk.2) (.int .i64 t279)) (fun _ hk => hk.2) (.int .u64 t280)) (fun _ hk => hk.2) (.int .u64 t281)) (fun _ hk => hk.2) (.slice Ao64 t282.length co64)) (fun _ h_ => h_.1))) hb); have n3_ := Aside0.mk (Kd.R_below (by (with_reducible repeat (first | apply Kd.R_alloc | apply Kd.R_drewN | apply Kd.R_drew)); exact (Kd.R_mono (Kd.R_far (p := ⟨gb287, 3, none⟩) (Kd.R_far (p := ⟨gb287, 2, none⟩) (Kd.R_far (p := ⟨gb287, 1, none⟩) (Kd.R_far (p := ⟨gb287, 0, none⟩) (Kd.R_types HO284.out BK287.out (by decide)) (fun _ hk => hk.2) (.int .i64 t279)) (fun _ hk => hk.2) (.int .u64 t280)) (fun _ hk => hk.2) (.int .u64 t281)) (fun _ hk => hk.2) (.slice Ao64 t282.length co64)) (fun _ h_ => h_.1))) hb); have n4_ := Aside0.mk (blk_below (g := gb249) (o := .cells #[.int .i64 a0_0, .int .u64 a0_1, .int .u64 a0_2, .slice A0_3 l0_3.length c0_3] 25 (0, 0)) (by (with_reducible repeat (first | refine blk_drewN ?_ _ | refine blk_drew ?_ | refine blk_alloc ?_ _)); refine blk_far ?_ NB249_287.out _; (with_reducible repeat (first | refine blk_drewN ?_ _ | refine blk_drew ?_ | refine blk_alloc ?_ _)); refine blk_far ?_ NB249_287.out _; (with_reducible repeat (first | refine blk_drewN ?_ _ | refine blk_drew ?_ | refine blk_alloc ?_ _)); refine blk_far ?_ NB249_287.out _; (with_reducible repeat (first | refine blk_drewN ?_ _ | refine blk_drew ?_ | refine blk_alloc ?_ _)); refine blk_far ?_ NB249_287.out _; (with_reducible repeat (first | refine blk_drewN ?_ _ | refine blk_drew ?_ | refine blk_alloc ?_ _)); exact BK249.out) hb); have n5_ := Aside0.mk (blk_below (g := gb274) (o := .cells #[.int .i64 t266, .int .u64 t267, .int .u64 t268, .slice Ao56 t269.length co56] 25 (0, 0)) (by (with_reducible repeat (first | refine blk_drewN ?_ _ | refine blk_drew ?_ | refine blk_alloc ?_ _)); refine blk_far ?_ NB274_287.out _; (with_reducible repeat (first | refine blk_drewN ?_ _ | refine blk_drew ?_ | refine blk_alloc ?_ _)); refine blk_far ?_ NB274_287.out _; (with_reducible repeat (first | refine blk_drewN ?_ _ | refine blk_drew ?_ | refine blk_alloc ?_ _)); refine blk_far ?_ NB274_287.out _; (with_reducible repeat (first | refine blk_drewN ?_ _ | refine blk_drew ?_ | refine blk_alloc ?_ _)); refine blk_far ?_ NB274_287.out _; (with_reducible repeat (first | refine blk_drewN ?_ _ | refine blk_drew ?_ | refine blk_alloc ?_ _)); exact BK274.out) hb); have n6_ := Aside0.mk (blk_below (g := gb287) (o := .cells #[.int .i64 t279, .int .u64 t280, .int .u64 t281, .slice Ao64 t282.length co64] 25 (0, 0)) (by (with_reducible repeat (first | refine blk_drewN ?_ _ | refine blk_drew ?_ | refine blk_alloc ?_ _)); refine blk_put (cs := #[.int .i64 t279, .int .u64 t280, .int .u64 t281, .slice none 0 0]) ?_ 3 _ rfl; (with_reducible repeat (first | refine blk_drewN ?_ _ | refine blk_drew ?_ | refine blk_alloc ?_ _)); refine blk_put (cs := #[.int .i64 t279, .int .u64 t280, .int .u64 0, .slice none 0 0]) ?_ 2 _ rfl; (with_reducible repeat (first | refine blk_drewN ?_ _ | refine blk_drew ?_ | refine blk_alloc ?_ _)); refine blk_put (cs := #[.int .i64 t279, .int .u64 0, .int .u64 0, .slice none 0 0]) ?_ 1 _ rfl; (with_reducible repeat (first | refine blk_drewN ?_ _ | refine blk_drew ?_ | refine blk_alloc ?_ _)); refine blk_put (cs := #[.int .i64 0, .int .u64 0, .int .u64 0, .slice none 0 0]) ?_ 0 _ rfl; (with_reducible repeat (first | refine blk_drewN ?_ _ | refine blk_drew ?_ | refine blk_alloc ?_ _)); exact BK287.out) hb); have n7_ := Aside0.mk (below_step (by repeat (first | (with_reducible first | exact HB.out | apply below_alloc | apply pw_below_drewN | apply below_drew1 | refine below_set ?_ GE249.out | refine below_set ?_ GE274.out | refine below_set ?_ GE287.out) | exact HB.out)) hb); clear HO_13; clear HO265; clear HO271; clear HO284; clear BK249; clear BK274; clear BK287; clear HB; have HO_13 := n0_; have HO265 := n1_; have HO271 := n2_; have HO284 := n3_; have BK249 := n4_; have BK274 := n5_; have BK287 := n6_; have HB := n7_; clear n0_ n1_ n2_ n3_ n4_ n5_ n6_ n7_; (try clear hb); (try clear hb2); (try clear hk); (try clear hi)))
                                go_meet
                                case rel => exact ⟨_, (true), (by first | rfl | (simp; done) | (simp [*]; done)), H', ⟨by have := HJ8.out; have := HJ30.out; first | omega | exact Nat.le_refl _⟩, ⟨by (with_reducible repeat (first | apply Kd.R_alloc | apply Kd.R_drewN | apply Kd.R_drew)); exact Kd.R_mono HO_13.out (fun _ hk => ⟨hk.1.2, hk.2⟩)⟩, ⟨by (with_reducible repeat (first | apply Kd.R_alloc | apply Kd.R_drewN | apply Kd.R_drew)); exact Kd.R_mono HO271.out (fun _ hk => ⟨hk.1.1, hk.2⟩)⟩, ⟨by (with_reducible repeat (first | apply Kd.R_alloc | apply Kd.R_drewN | apply Kd.R_drew)); exact Kd.R_mono HO284.out (fun _ hk => ⟨hk.1.1.2, hk.2⟩)⟩, ⟨by (with_reducible repeat (first | refine blk_drewN ?_ _ | refine blk_drew ?_ | refine blk_alloc ?_ _)); exact BK249.out⟩, ⟨by (with_reducible repeat (first | refine blk_drewN ?_ _ | refine blk_drew ?_ | refine blk_alloc ?_ _)); exact BK274.out⟩, ⟨by (with_reducible repeat (first | refine blk_drewN ?_ _ | refine blk_drew ?_ | refine blk_alloc ?_ _)); exact BK287.out⟩, ⟨by repeat (first | (with_reducible first | exact HB.out | apply below_alloc | apply pw_below_drewN | apply below_drew1 | refine below_set ?_ GE249.out | refine below_set ?_ GE274.out | refine below_set ?_ GE287.out) | exact HB.out)⟩⟩
                            · rw [if_neg c65] at H
                              have c65b0 : (t273 == 0) = false := beq_eq_false_iff_ne.mpr c65
                              have c65b1 : (t273 != 0) = true := bne_iff_ne.mpr c65
                              (first | rw [c65b0] | (simp only [i64_w, i32_w]; rw [c65b0]) | skip)
                              have H' := Aside0.mk H
                              clear H
                              go_wp2
                              go_meet
                              case rel => exact ⟨_, (true), (by first | rfl | (simp; done) | (simp [*]; done)), H', ⟨by have := HJ8.out; have := HJ30.out; first | omega | exact Nat.le_refl _⟩, ⟨by (with_reducible repeat (first | apply Kd.R_alloc | apply Kd.R_drewN | apply Kd.R_drew)); exact Kd.R_mono (Kd.R_far (p := ⟨gb287, 3, none⟩) (Kd.R_far (p := ⟨gb287, 2, none⟩) (Kd.R_far (p := ⟨gb287, 1, none⟩) (Kd.R_far (p := ⟨gb287, 0, none⟩) (Kd.R_types HO_13.out BK287.out (by decide)) (fun _ hk => hk.2) (.int .i64 t279)) (fun _ hk => hk.2) (.int .u64 t280)) (fun _ hk => hk.2) (.int .u64 t281)) (fun _ hk => hk.2) (.slice Ao64 t282.length co64)) (fun _ hk => ⟨hk.1.1.2, hk.1.2⟩)⟩, ⟨by (with_reducible repeat (first | apply Kd.R_alloc | apply Kd.R_drewN | apply Kd.R_drew)); exact Kd.R_mono (Kd.R_far (p := ⟨gb287, 3, none⟩) (Kd.R_far (p := ⟨gb287, 2, none⟩) (Kd.R_far (p := ⟨gb287, 1, none⟩) (Kd.R_far (p := ⟨gb287, 0, none⟩) (Kd.R_types HO271.out BK287.out (by decide)) (fun _ hk => hk.2) (.int .i64 t279)) (fun _ hk => hk.2) (.int .u64 t280)) (fun _ hk => hk.2) (.int .u64 t281)) (fun _ hk => hk.2) (.slice Ao64 t282.length co64)) (fun _ hk => ⟨hk.1.1.1, hk.1.2⟩)⟩, ⟨by (with_reducible repeat (first | apply Kd.R_alloc | apply Kd.R_drewN | apply Kd.R_drew)); exact Kd.R_mono (Kd.R_far (p := ⟨gb287, 3, none⟩) (Kd.R_far (p := ⟨gb287, 2, none⟩) (Kd.R_far (p := ⟨gb287, 1, none⟩) (Kd.R_far (p := ⟨gb287, 0, none⟩) (Kd.R_types HO284.out BK287.out (by decide)) (fun _ hk => hk.2) (.int .i64 t279)) (fun _ hk => hk.2) (.int .u64 t280)) (fun _ hk => hk.2) (.int .u64 t281)) (fun _ hk => hk.2) (.slice Ao64 t282.length co64)) (fun _ hk => ⟨hk.1.1.1.2, hk.1.2⟩)⟩, ⟨by (with_reducible repeat (first | refine blk_drewN ?_ _ | refine blk_drew ?_ | refine blk_alloc ?_ _)); refine blk_far ?_ NB249_287.out _; (with_reducible repeat (first | refine blk_drewN ?_ _ | refine blk_drew ?_ | refine blk_alloc ?_ _)); refine blk_far ?_ NB249_287.out _; (with_reducible repeat (first | refine blk_drewN ?_ _ | refine blk_drew ?_ | refine blk_alloc ?_ _)); refine blk_far ?_ NB249_287.out _; (with_reducible repeat (first | refine blk_drewN ?_ _ | refine blk_drew ?_ | refine blk_alloc ?_ _)); refine blk_far ?_ NB249_287.out _; (with_reducible repeat (first | refine blk_drewN ?_ _ | refine blk_drew ?_ | refine blk_alloc ?_ _)); exact BK249.out⟩, ⟨by (with_reducible repeat (first | refine blk_drewN ?_ _ | refine blk_drew ?_ | refine blk_alloc ?_ _)); refine blk_far ?_ NB274_287.out _; (with_reducible repeat (first | refine blk_drewN ?_ _ | refine blk_drew ?_ | refine blk_alloc ?_ _)); refine blk_far ?_ NB274_287.out _; (with_reducible repeat (first | refine blk_drewN ?_ _ | refine blk_drew ?_ | refine blk_alloc ?_ _)); refine blk_far ?_ NB274_287.out _; (with_reducible repeat (first | refine blk_drewN ?_ _ | refine blk_drew ?_ | refine blk_alloc ?_ _)); refine blk_far ?_ NB274_287.out _; (with_reducible repeat (first | refine blk_drewN ?_ _ | refine blk_drew ?_ | refine blk_alloc ?_ _)); exact BK274.out⟩, ⟨by (with_reducible repeat (first | refine blk_drewN ?_ _ | refine blk_drew ?_ | refine blk_alloc ?_ _)); refine blk_put (cs := #[.int .i64 t279, .int .u64 t280, .int .u64 t281, .slice none 0 0]) ?_ 3 _ rfl; (with_reducible repeat (first | refine blk_drewN ?_ _ | refine blk_drew ?_ | refine blk_alloc ?_ _)); refine blk_put (cs := #[.int .i64 t279, .int .u64 t280, .int .u64 0, .slice none 0 0]) ?_ 2 _ rfl; (with_reducible repeat (first | refine blk_drewN ?_ _ | refine blk_drew ?_ | refine blk_alloc ?_ _)); refine blk_put (cs := #[.int .i64 t279, .int .u64 0, .int .u64 0, .slice none 0 0]) ?_ 1 _ rfl; (with_reducible repeat (first | refine blk_drewN ?_ _ | refine blk_drew ?_ | refine blk_alloc ?_ _)); refine blk_put (cs := #[.int .i64 0, .int .u64 0, .int .u64 0, .slice none 0 0]) ?_ 0 _ rfl; (with_reducible repeat (first | refine blk_drewN ?_ _ | refine blk_drew ?_ | refine blk_alloc ?_ _)); exact BK287.out⟩, ⟨by repeat (first | (with_reducible first | exact HB.out | apply below_alloc | apply pw_below_drewN | apply below_drew1 | refine below_set ?_ GE249.out | refine below_set ?_ GE274.out | refine below_set ?_ GE287.out) | exact HB.out)⟩⟩
                          case rest =>
                            clear HC46
                            try clear c1
                            try clear c2
                            try clear p2
                            try clear c3
                            try clear c4
                            try clear c5
                            try clear q5
                            try clear c6
                            try clear p6
                            try clear c7
                            try clear c8
                            try clear c10
                            try clear c11
                            try clear c12
                            try clear c12b0
                            try clear c12b1
                            try clear c14
                            try clear c14b0
                            try clear c14b1
                            try clear c16
                            try clear c16b0
                            try clear c16b1
                            try clear c18
                            try clear c18b0
                            try clear c20
                            try clear c20b0
                            try clear c21
                            try clear c22
                            try clear c22b0
                            try clear c22b1
                            try clear c27
                            try clear c34
                            try clear c34b0
                            try clear c34b1
                            try clear c36
                            try clear c38
                            try clear c39
                            try clear c41
                            try clear c41b0
                            try clear c41b1
                            try clear c41b2
                            try clear c43
                            try clear c43b0
                            try clear c43b1
                            try clear c44
                            try clear c44b0
                            try clear c44b1
                            try clear c54
                            try clear q58
                            try clear c61
                            try clear c62
                            try clear p64
                            try clear c65
                            try clear c65b0
                            try clear c65b1
                            try clear c67
                            try clear c68
                            try clear c68b0
                            try clear c68b1
                            try clear c69
                            try clear c70
                            try clear c72
                            try clear c75
                            try clear c76
                            try clear c78
                            try clear c81
                            try clear c82
                            try clear c84
                            try clear hcz13_0
                            try clear hcz13_1
                            try clear hcz13_2
                            try clear hcz13_3
                            try clear hcz15_0
                            try clear hcz15_1
                            try clear hcz15_2
                            try clear hcz15_3
                            try clear hcz17_0
                            try clear hcz17_1
                            try clear hcz17_2
                            try clear hcz17_3
                            try clear hcz19_0
                            try clear hcz19_1
                            try clear hcz19_2
                            try clear hcz19_3
                            try clear hcz21_0
                            try clear hcz21_1
                            try clear hcz21_2
                            try clear hcz21_3
                            try clear hcz23_0
                            try clear hcz23_1
                            try clear hcz23_2
                            try clear hcz23_3
                            try clear hcz25_0
                            try clear hcz25_1
                            try clear hcz25_2
                            try clear hcz25_3
                            try clear hcz32_0
                            try clear hcz32_1
                            try clear hcz32_2
                            try clear hcz32_3
                            try clear hcz55_0
                            try clear hcz55_1
                            try clear hcz55_2
                            try clear hcz55_3
                            try clear hcz63_0
                            try clear hcz63_1
                            try clear hcz63_2
                            try clear hcz63_3
                            try clear hcz71_0
                            try clear hcz71_1
                            try clear hcz71_2
                            try clear hcz71_3
                            try clear hcz73_0
                            try clear hcz73_1
                            try clear hcz73_2
                            try clear hcz73_3
                            try clear hcz77_0
                            try clear hcz77_1
                            try clear hcz77_2
                            try clear hcz77_3
                            try clear hcz79_0
                            try clear hcz79_1
                            try clear hcz79_2
                            try clear hcz79_3
                            try clear hcz83_0
                            try clear hcz83_1
                            try clear hcz83_2
                            try clear hcz83_3
                            try clear hcz85_0
                            try clear hcz85_1
                            try clear hcz85_2
                            try clear hcz85_3
                            try clear hfz13_0
                            try clear hfz13_1
                            try clear hfz13_2
                            try clear hfz13_3
                            try clear hfz15_0
                            try clear hfz15_1
                            try clear hfz15_2
                            try clear hfz15_3
                            try clear hfz17_0
                            try clear hfz17_1
                            try clear hfz17_2
                            try clear hfz17_3
                            try clear hfz19_0
                            try clear hfz19_1
                            try clear hfz19_2
                            try clear hfz19_3
                            try clear hfz21_0
                            try clear hfz21_1
                            try clear hfz21_2
                            try clear hfz21_3
                            try clear hfz23_0
                            try clear hfz23_1
                            try clear hfz23_2
                            try clear hfz23_3
                            try clear hfz25_0
                            try clear hfz25_1
                            try clear hfz25_2
                            try clear hfz25_3
                            try clear hfz32_0
                            try clear hfz32_1
                            try clear hfz32_2
                            try clear hfz32_3
                            try clear hfz55_0
                            try clear hfz55_1
                            try clear hfz55_2
                            try clear hfz55_3
                            try clear hfz63_0
                            try clear hfz63_1
                            try clear hfz63_2
                            try clear hfz63_3
                            try clear hfz71_0
                            try clear hfz71_1
                            try clear hfz71_2
                            try clear hfz71_3
                            try clear hfz73_0
                            try clear hfz73_1
                            try clear hfz73_2
                            try clear hfz73_3
                            try clear hfz77_0
                            try clear hfz77_1
                            try clear hfz77_2
                            try clear hfz77_3
                            try clear hfz79_0
                            try clear hfz79_1
                            try clear hfz79_2
                            try clear hfz79_3
                            try clear hfz83_0
                            try clear hfz83_1
                            try clear hfz83_2
                            try clear hfz83_3
                            try clear hfz85_0
                            try clear hfz85_1
                            try clear hfz85_2
                            try clear hfz85_3
                            try clear p2
                            try clear q58
                            obtain ⟨kq, x118_45, rfl, HA, HJ45, HO_13, HO_275003, HO_288003, BK249, BK274, BK287, HB⟩ := hcut
                            cases kq with
                            | zero => exact absurd HA.out (by simp [tiklaw15_RecBack.j2])
                            | succ kj45 =>
                              have H := HA.out
                              clear HA
                              simp only [tiklaw15_RecBack.j2] at H
                              by_cases c87 : x118_45 = true
                              · subst c87
                                have H1 : (some false) = some r := by rw [if_pos rfl] at H; exact H
                                clear H
                                have H := H1
                                clear H1
                                exact absurd ((Option.some.inj H).trans hr_.out) (by simp)
                              · replace c87 := Bool.eq_false_iff.mpr c87
                                subst c87
                                have H1 : ((tikref_CopyBytes.f t253).bind fun t289 => (if (wrap64 ((t253.length : Int) - 2)) = 0 then (none) else (if 0 ≤ (wrap64 (2 + (Int.tmod a4 (wrap64 ((t253.length : Int) - 2))))) then (if (wrap64 (2 + (Int.tmod a4 (wrap64 ((t253.length : Int) - 2))))) < (t289.length : Int) then ((some (t289.set ((wrap64 (2 + (Int.tmod a4 (wrap64 ((t253.length : Int) - 2))))) : Int).toNat (Go.bits .xor .u8 (rd t289 (wrap64 (2 + (Int.tmod a4 (wrap64 ((t253.length : Int) - 2)))))) a5) : List Int)).bind fun y293 => ((rec_Decode.f y293 0).bind fun bt294 => (if bt294.2.2.2.2.2 = 0 then ((tiklaw15_first.f kj45).bind fun t304 => (if t304 = true then (if bt294.2.2.2.2.1 ≤ (t289.length : Int) then ((rec_Same.f bt294.1 bt294.2.1 bt294.2.2.1 bt294.2.2.2.1 a0_0 a0_1 a0_2 l0_3).bind fun t305 => (if t305 = true then (some false) else (if 6 ≤ bt294.2.2.2.2.1 then ((tikref2_Crc.f kj45 ((y293.take (bt294.2.2.2.2.1 : Int).toNat).drop 6)).bind fun t310 => (if 2 ≤ 6 then (if 6 ≤ (t289.length : Int) then ((tikref2_Big.f kj45 ((y293.take 6).drop 2)).bind fun t315 => (some (t310 == ((t315) % 4294967296)))) else (none)) else (none))) else (none)))) else (some false)) else (some false))) else ((tiklaw15_first.f kj45).bind fun t303 => (some t303))))) else (none)) else (none)))) = some r := by rw [if_neg (show ¬ (false = true) by decide)] at H; exact H
                                clear H
                                have H := H1
                                clear H1
                                replace H := Option.bind_eq_some_iff.mp H
                                obtain ⟨t289, A880, H⟩ := H
                                replace H : (if (wrap64 ((t253.length : Int) - 2)) = 0 then (none) else (if 0 ≤ (wrap64 (2 + (Int.tmod a4 (wrap64 ((t253.length : Int) - 2))))) then (if (wrap64 (2 + (Int.tmod a4 (wrap64 ((t253.length : Int) - 2))))) < (t289.length : Int) then ((some (t289.set ((wrap64 (2 + (Int.tmod a4 (wrap64 ((t253.length : Int) - 2))))) : Int).toNat (Go.bits .xor .u8 (rd t289 (wrap64 (2 + (Int.tmod a4 (wrap64 ((t253.length : Int) - 2)))))) a5) : List Int)).bind fun y293 => ((rec_Decode.f y293 0).bind fun bt294 => (if bt294.2.2.2.2.2 = 0 then ((tiklaw15_first.f kj45).bind fun t304 => (if t304 = true then (if bt294.2.2.2.2.1 ≤ (t289.length : Int) then ((rec_Same.f bt294.1 bt294.2.1 bt294.2.2.1 bt294.2.2.2.1 a0_0 a0_1 a0_2 l0_3).bind fun t305 => (if t305 = true then (some false) else (if 6 ≤ bt294.2.2.2.2.1 then ((tikref2_Crc.f kj45 ((y293.take (bt294.2.2.2.2.1 : Int).toNat).drop 6)).bind fun t310 => (if 2 ≤ 6 then (if 6 ≤ (t289.length : Int) then ((tikref2_Big.f kj45 ((y293.take 6).drop 2)).bind fun t315 => (some (t310 == ((t315) % 4294967296)))) else (none)) else (none))) else (none)))) else (some false)) else (some false))) else ((tiklaw15_first.f kj45).bind fun t303 => (some t303))))) else (none)) else (none))) = some r := H
                                have A88 := Aside0.mk A880
                                clear A880
                                by_cases c89 : (wrap64 ((t253.length : Int) - 2)) = 0
                                · rw [if_pos c89] at H
                                  exact absurd H (by simp)
                                · rw [if_neg c89] at H
                                  have c89b0 : ((wrap64 ((t253.length : Int) - 2)) == 0) = false := beq_eq_false_iff_ne.mpr c89
                                  have c89b1 : ((wrap64 ((t253.length : Int) - 2)) != 0) = true := bne_iff_ne.mpr c89
                                  obtain ⟨ji90, hji90⟩ : ∃ j_ : Int, (wrap64 (2 + (Int.tmod a4 (wrap64 ((t253.length : Int) - 2))))) = j_ := ⟨_, rfl⟩
                                  replace H : (if 0 ≤ (ji90) then (if (ji90) < (t289.length : Int) then ((some (t289.set ((ji90) : Int).toNat (Go.bits .xor .u8 (rd t289 (ji90)) a5) : List Int)).bind fun y293 => ((rec_Decode.f y293 0).bind fun bt294 => (if bt294.2.2.2.2.2 = 0 then ((tiklaw15_first.f kj45).bind fun t304 => (if t304 = true then (if bt294.2.2.2.2.1 ≤ (t289.length : Int) then ((rec_Same.f bt294.1 bt294.2.1 bt294.2.2.1 bt294.2.2.2.1 a0_0 a0_1 a0_2 l0_3).bind fun t305 => (if t305 = true then (some false) else (if 6 ≤ bt294.2.2.2.2.1 then ((tikref2_Crc.f kj45 ((y293.take (bt294.2.2.2.2.1 : Int).toNat).drop 6)).bind fun t310 => (if 2 ≤ 6 then (if 6 ≤ (t289.length : Int) then ((tikref2_Big.f kj45 ((y293.take 6).drop 2)).bind fun t315 => (some (t310 == ((t315) % 4294967296)))) else (none)) else (none))) else (none)))) else (some false)) else (some false))) else ((tiklaw15_first.f kj45).bind fun t303 => (some t303))))) else (none)) else (none)) = some r := by first | (rw [hji90] at H; exact H) | (simp only [hji90] at H ⊢; exact H)
                                  (try rw [hji90] at A88)
                                  have hji90w : (IntKind.i64.wrap (2 + (Int.tmod a4 (wrap64 ((t253.length : Int) - 2))))) = ji90 := (i64_w _).trans hji90
                                  by_cases c91 : 0 ≤ (ji90)
                                  · rw [if_pos c91] at H
                                    have c91b0 : decide (0 ≤ (ji90)) = true := decide_eq_true c91
                                    clear c91
                                    by_cases c92 : (ji90) < (t289.length : Int)
                                    · rw [if_pos c92] at H
                                      have c92b0 : decide ((ji90) < (t289.length : Int)) = true := decide_eq_true c92
                                      clear c92
                                      obtain ⟨y293, hy293⟩ : ∃ y_ : List Int, y_ = (t289.set ((ji90) : Int).toNat (Go.bits .xor .u8 (rd t289 (ji90)) a5)) := ⟨_, rfl⟩
                                      replace H : ((rec_Decode.f y293 0).bind fun bt294 => (if bt294.2.2.2.2.2 = 0 then ((tiklaw15_first.f kj45).bind fun t304 => (if t304 = true then (if bt294.2.2.2.2.1 ≤ (t289.length : Int) then ((rec_Same.f bt294.1 bt294.2.1 bt294.2.2.1 bt294.2.2.2.1 a0_0 a0_1 a0_2 l0_3).bind fun t305 => (if t305 = true then (some false) else (if 6 ≤ bt294.2.2.2.2.1 then ((tikref2_Crc.f kj45 ((y293.take (bt294.2.2.2.2.1 : Int).toNat).drop 6)).bind fun t310 => (if 2 ≤ 6 then (if 6 ≤ (t289.length : Int) then ((tikref2_Big.f kj45 ((y293.take 6).drop 2)).bind fun t315 => (some (t310 == ((t315) % 4294967296)))) else (none)) else (none))) else (none)))) else (some false)) else (some false))) else ((tiklaw15_first.f kj45).bind fun t303 => (some t303)))) = some r := by first | (rw [hy293]; with_reducible exact H) | (have H2_ := (Option.bind_some _ _).symm.trans H; rw [hy293]; with_reducible exact H2_) | (have H2_ := (Option.bind_some _ _).symm.trans H; with_reducible exact H2_) | with_reducible exact H | (rw [hy293]; exact H) | exact H
                                      have Ny293 := Aside0.mk hy293
                                      clear hy293
                                      replace H := Option.bind_eq_some_iff.mp H
                                      obtain ⟨⟨t294, t295, t296, t297, t300, t301⟩, A940, H⟩ := H
                                      replace H : (if t301 = 0 then ((tiklaw15_first.f kj45).bind fun t304 => (if t304 = true then (if t300 ≤ (t289.length : Int) then ((rec_Same.f t294 t295 t296 t297 a0_0 a0_1 a0_2 l0_3).bind fun t305 => (if t305 = true then (some false) else (if 6 ≤ t300 then ((tikref2_Crc.f kj45 ((y293.take (t300 : Int).toNat).drop 6)).bind fun t310 => (if 2 ≤ 6 then (if 6 ≤ (t289.length : Int) then ((tikref2_Big.f kj45 ((y293.take 6).drop 2)).bind fun t315 => (some (t310 == ((t315) % 4294967296)))) else (none)) else (none))) else (none)))) else (some false)) else (some false))) else ((tiklaw15_first.f kj45).bind fun t303 => (some t303))) = some r := H
                                      have A94 := Aside0.mk A940
                                      clear A940
                                      by_cases c95 : t301 = 0
                                      · rw [if_pos c95] at H
                                        have c95b0 : (t301 == 0) = true := beq_iff_eq.mpr c95
                                        have c95b1 : (t301 != 0) = false := bne_eq_false_iff_eq.mpr c95
                                        clear c95
                                        replace H := Option.bind_eq_some_iff.mp H
                                        obtain ⟨t304, A960, H⟩ := H
                                        replace H : (if t304 = true then (if t300 ≤ (t289.length : Int) then ((rec_Same.f t294 t295 t296 t297 a0_0 a0_1 a0_2 l0_3).bind fun t305 => (if t305 = true then (some false) else (if 6 ≤ t300 then ((tikref2_Crc.f kj45 ((y293.take (t300 : Int).toNat).drop 6)).bind fun t310 => (if 2 ≤ 6 then (if 6 ≤ (t289.length : Int) then ((tikref2_Big.f kj45 ((y293.take 6).drop 2)).bind fun t315 => (some (t310 == ((t315) % 4294967296)))) else (none)) else (none))) else (none)))) else (some false)) else (some false)) = some r := H
                                        have A96 := Aside0.mk A960
                                        clear A960
                                        by_cases c97 : t304 = true
                                        · subst c97
                                          have H1 : (if t300 ≤ (t289.length : Int) then ((rec_Same.f t294 t295 t296 t297 a0_0 a0_1 a0_2 l0_3).bind fun t305 => (if t305 = true then (some false) else (if 6 ≤ t300 then ((tikref2_Crc.f kj45 ((y293.take (t300 : Int).toNat).drop 6)).bind fun t310 => (if 2 ≤ 6 then (if 6 ≤ (t289.length : Int) then ((tikref2_Big.f kj45 ((y293.take 6).drop 2)).bind fun t315 => (some (t310 == ((t315) % 4294967296)))) else (none)) else (none))) else (none)))) else (some false)) = some r := by rw [if_pos rfl] at H; exact H
                                          clear H
                                          have H := H1
                                          clear H1
                                          by_cases c98 : t300 ≤ (t289.length : Int)
                                          · rw [if_pos c98] at H
                                            have c98b0 : decide (t300 ≤ (t289.length : Int)) = true := decide_eq_true c98
                                            clear c98
                                            replace H := Option.bind_eq_some_iff.mp H
                                            obtain ⟨t305, A990, H⟩ := H
                                            replace H : (if t305 = true then (some false) else (if 6 ≤ t300 then ((tikref2_Crc.f kj45 ((y293.take (t300 : Int).toNat).drop 6)).bind fun t310 => (if 2 ≤ 6 then (if 6 ≤ (t289.length : Int) then ((tikref2_Big.f kj45 ((y293.take 6).drop 2)).bind fun t315 => (some (t310 == ((t315) % 4294967296)))) else (none)) else (none))) else (none))) = some r := H
                                            have A99 := Aside0.mk A990
                                            clear A990
                                            by_cases c100 : t305 = true
                                            · subst c100
                                              have H1 : (some false) = some r := by rw [if_pos rfl] at H; exact H
                                              clear H
                                              have H := H1
                                              clear H1
                                              exact absurd ((Option.some.inj H).trans hr_.out) (by simp)
                                            · replace c100 := Bool.eq_false_iff.mpr c100
                                              subst c100
                                              have H1 : (if 6 ≤ t300 then ((tikref2_Crc.f kj45 ((y293.take (t300 : Int).toNat).drop 6)).bind fun t310 => (if 2 ≤ 6 then (if 6 ≤ (t289.length : Int) then ((tikref2_Big.f kj45 ((y293.take 6).drop 2)).bind fun t315 => (some (t310 == ((t315) % 4294967296)))) else (none)) else (none))) else (none)) = some r := by rw [if_neg (show ¬ (false = true) by decide)] at H; exact H
                                              clear H
                                              have H := H1
                                              clear H1
                                              by_cases c101 : 6 ≤ t300
                                              · rw [if_pos c101] at H
                                                have c101b0 := eq_true c101
                                                have c101b1 : decide (6 ≤ t300) = true := decide_eq_true c101
                                                clear c101
                                                have c102b0 := eq_true (of_decide_eq_true (by first | (with_reducible assumption) | assumption) : t300 ≤ (t289.length : Int))
                                                obtain ⟨y306, hy306⟩ : ∃ y_ : List Int, y_ = ((y293.take (t300 : Int).toNat).drop 6) := ⟨_, rfl⟩
                                                replace H : ((tikref2_Crc.f kj45 y306).bind fun t310 => (if 2 ≤ 6 then (if 6 ≤ (t289.length : Int) then ((tikref2_Big.f kj45 ((y293.take 6).drop 2)).bind fun t315 => (some (t310 == ((t315) % 4294967296)))) else (none)) else (none))) = some r := by first | (rw [hy306]; with_reducible exact H) | (have H2_ := (Option.bind_some _ _).symm.trans H; rw [hy306]; with_reducible exact H2_) | (have H2_ := (Option.bind_some _ _).symm.trans H; with_reducible exact H2_) | with_reducible exact H | (rw [hy306]; exact H) | exact H
                                                have Ny306 := Aside0.mk hy306
                                                clear hy306
                                                replace H := Option.bind_eq_some_iff.mp H
                                                obtain ⟨t310, A1030, H⟩ := H
                                                replace H : (if 2 ≤ 6 then (if 6 ≤ (t289.length : Int) then ((tikref2_Big.f kj45 ((y293.take 6).drop 2)).bind fun t315 => (some (t310 == ((t315) % 4294967296)))) else (none)) else (none)) = some r := H
                                                have A103 := Aside0.mk A1030
                                                clear A1030
                                                by_cases c104 : 2 ≤ 6
                                                · rw [if_pos c104] at H
                                                  have c104b0 := eq_true c104
                                                  have c104b1 : decide (2 ≤ 6) = true := decide_eq_true c104
                                                  clear c104
                                                  by_cases c105 : 6 ≤ (t289.length : Int)
                                                  · rw [if_pos c105] at H
                                                    have c105b0 := eq_true c105
                                                    have c105b1 : decide (6 ≤ (t289.length : Int)) = true := decide_eq_true c105
                                                    clear c105
                                                    obtain ⟨y311, hy311⟩ : ∃ y_ : List Int, y_ = ((y293.take 6).drop 2) := ⟨_, rfl⟩
                                                    replace H : ((tikref2_Big.f kj45 y311).bind fun t315 => (some (t310 == ((t315) % 4294967296)))) = some r := by first | (rw [hy311]; with_reducible exact H) | (have H2_ := (Option.bind_some _ _).symm.trans H; rw [hy311]; with_reducible exact H2_) | (have H2_ := (Option.bind_some _ _).symm.trans H; with_reducible exact H2_) | with_reducible exact H | (rw [hy311]; exact H) | exact H
                                                    have Ny311 := Aside0.mk hy311
                                                    clear hy311
                                                    replace H := Option.bind_eq_some_iff.mp H
                                                    obtain ⟨t315, A1060, H⟩ := H
                                                    replace H : (some (t310 == ((t315) % 4294967296))) = some r := H
                                                    have A106 := Aside0.mk A1060
                                                    clear A1060
                                                    obtain rfl := Option.some.inj H
                                                    try go_wp2_with (first | ((with_reducible refine gate_callee (f := 21) rfl ?_); refine goesL_ (some 120) rfl rfl Try.func21 (by kernel_rfl) rfl #[.slice Ao49 t253.length co49] rfl (by (try simp only [List.map_toArray, List.map_cons, List.map_nil]); first | done | rfl | (simp only [List.length_drop, List.length_take]; rfl)) ?_; (with_reducible refine (tikref_CopyBytes.calls _ _ t253 t289 _ ?side1 ?side2 A88.out).mono ?_); (case side1 => repeat (first | exact (Kd.R_reads' HO_13.out).2.2 | (with_reducible refine Kd.C_alloc ?_ _) | (with_reducible refine Kd.C_drewN ?_ _) | (with_reducible refine Kd.C_drew ?_))); (case side2 => exact (Kd.R_reads' HO_13.out).2.1); rintro e w107 ⟨v290, rfl, ho0, hb⟩; refine ⟨_, rfl, ?_⟩; have n0_ := Aside0.mk (Kd.R_elder' (by (with_reducible repeat (first | apply Kd.R_alloc | apply Kd.R_drewN | apply Kd.R_drew)); exact HO_13.out) (Kd.R_base ho0) hb); have n1_ := Aside0.mk (Kd.R_elder' (by (with_reducible repeat (first | apply Kd.R_alloc | apply Kd.R_drewN | apply Kd.R_drew)); exact HO_275003.out) (Kd.R_base ho0) hb); have n2_ := Aside0.mk (Kd.R_elder' (by (with_reducible repeat (first | apply Kd.R_alloc | apply Kd.R_drewN | apply Kd.R_drew)); exact HO_288003.out) (Kd.R_base ho0) hb); have n3_ := Aside0.mk (Kd.R_lower (Kd.R_new' (Kd.R_new' (Kd.R_new' ho0 (Kd.R_lt (by (with_reducible repeat (first | apply Kd.R_alloc | apply Kd.R_drewN | apply Kd.R_drew)); exact HO_13.out))) (Kd.R_lt (by (with_reducible repeat (first | apply Kd.R_alloc | apply Kd.R_drewN | apply Kd.R_drew)); exact HO_275003.out))) (Kd.R_lt (by (with_reducible repeat (first | apply Kd.R_alloc | apply Kd.R_drewN | apply Kd.R_drew)); exact HO_288003.out))) (below_size (by repeat (first | (with_reducible first | exact HB.out | apply below_alloc | apply pw_below_drewN | apply below_drew1 | refine below_set ?_ GE249.out | refine below_set ?_ GE274.out | refine below_set ?_ GE287.out) | exact HB.out)))); have n4_ := Aside0.mk (blk_below (g := gb249) (o := .cells #[.int .i64 a0_0, .int .u64 a0_1, .int .u64 a0_2, .slice A0_3 l0_3.length c0_3] 25 (0, 0)) (by (with_reducible repeat (first | refine blk_drewN ?_ _ | refine blk_drew ?_ | refine blk_alloc ?_ _)); exact BK249.out) hb); have n5_ := Aside0.mk (blk_below (g := gb274) (o := .cells #[.int .i64 t266, .int .u64 t267, .int .u64 t268, .slice Ao56 t269.length co56] 25 (0, 0)) (by (with_reducible repeat (first | refine blk_drewN ?_ _ | refine blk_drew ?_ | refine blk_alloc ?_ _)); exact BK274.out) hb); have n6_ := Aside0.mk (blk_below (g := gb287) (o := .cells #[.int .i64 t279, .int .u64 t280, .int .u64 t281, .slice Ao64 t282.length co64] 25 (0, 0)) (by (with_reducible repeat (first | refine blk_drewN ?_ _ | refine blk_drew ?_ | refine blk_alloc ?_ _)); exact BK287.out) hb); have n7_ := Aside0.mk (below_step (by repeat (first | (with_reducible first | exact HB.out | apply below_alloc | apply pw_below_drewN | apply below_drew1 | refine below_set ?_ GE249.out | refine below_set ?_ GE274.out | refine below_set ?_ GE287.out) | exact HB.out)) hb); clear HO_13; clear HO_275003; clear HO_288003; clear BK249; clear BK274; clear BK287; clear HB; have HO_13 := n0_; have HO_275003 := n1_; have HO_288003 := n2_; have HO291 := n3_; have BK249 := n4_; have BK274 := n5_; have BK287 := n6_; have HB := n7_; clear n0_ n1_ n2_ n3_ n4_ n5_ n6_ n7_; (try clear hb); (try clear hb2); (try clear hk); (try clear hi); (try clear ho0); obtain ⟨Ao108, co108, eo108⟩ := Kd.R_slice HO291.out; subst eo108; have p292 : 0 ≤ ((ji90) : Int) := of_decide_eq_true (by first | (with_reducible assumption) | assumption); have q292 : (ji90) < (t289.length : Int) := of_decide_eq_true (by first | (with_reducible assumption) | assumption); obtain ⟨ad292, e292, hx292_0⟩ := Kd.at_int (Kd.R_reads' HO291.out).2.2 (ji90) p292 q292; cases e292; replace p292 := eq_true p292; replace q292 := eq_true q292; have p93 : 0 ≤ ((ji90) : Int) := of_decide_eq_true (by first | (with_reducible assumption) | assumption); have q93 : ((ji90) : Int) < ((t289.length : Int) : Int) := of_decide_eq_true (by first | (with_reducible assumption) | assumption); obtain ⟨go93, co93, eo93, gb93, gl93, cl93, HG93⟩ := Kd.R_form HO291.out (by omega); (first | cases eo93 | (injection eo93 with ea_ en_ ec_; (first | subst ea_ | (injection ea_ with ea_; subst ea_)); subst ec_; clear en_)); have GB93 := Aside0.mk gb93; have GG93 := Aside0.mk HG93; clear gb93 gl93 HG93; (first | simp only [add_plain] at hx292_0 | skip); obtain ⟨hx93_0, hf93_0⟩ := Kd.R_celln 0 HO291.out ((ji90) : Int) p93 q93; replace p93 := eq_true p93; replace q93 := eq_true q93; have n_ := Aside0.mk (Kd.R_mono (ok' := (fun k_ => some k_ ≠ (.slice Ao49 t253.length co49 : Value).ownBlock ∧ some k_ ≠ (.slice Ao56 t269.length co56 : Value).ownBlock ∧ some k_ ≠ (.slice Ao64 t282.length co64 : Value).ownBlock)) HO291.out (fun k_ hk => ⟨hk.1.1.2, ⟨hk.1.2, hk.2⟩⟩)); clear HO291; have HO291 := n_; clear n_; obtain ⟨hy109_, hz109_⟩ := Kd.R_celln 0 HO291.out ((ji90) : Int) (of_decide_eq_true (by first | (with_reducible assumption) | assumption)) (of_decide_eq_true (by first | (with_reducible assumption) | assumption)); have HP109 := Kd.R_putg HO291.out ((ji90) : Int) (Go.bits .xor .u8 (rd t289 (ji90)) a5)) | ((with_reducible refine gate_store (t := 5) (p := 135) rfl ?_); refine store_event (t := 5) (p := 135) (v := ?vo_w110) (w1 := (w107.setCell ⟨go93, ((ji90) : Int).toNat, none⟩ (.int .u8 (Go.bits .xor .u8 (rd t289 (ji90)) a5)))) ?hg ?ho ?hn ?hr ?_; (case ho => rfl); (case hg => rfl); (case hn => rfl); (case hr => first | (go_simp; done) | (go_simp; rfl)); intro w110 hw; have hg : w107.grownBy w110 (some go93) := (by rw [hw]; exact HP109.2); have hp_ : Kd.R (Kd.int .u8) 5 w110 w.heap.size (fun k_ => some k_ ≠ (.slice Ao49 t253.length co49 : Value).ownBlock ∧ some k_ ≠ (.slice Ao56 t269.length co56 : Value).ownBlock ∧ some k_ ≠ (.slice Ao64 t282.length co64 : Value).ownBlock) (.slice (some ⟨go93, 0, none⟩) t289.length co108) y293 := (by rw [hw, Ny293.out]; exact HP109.1); clear HP109; have n0_ := Aside0.mk (Kd.R_after (v := (.slice (some ⟨go93, 0, none⟩) t289.length co108)) (v1 := (.slice (some ⟨go93, 0, none⟩) t289.length co108)) (ok := (fun k_ => some k_ ≠ (.slice Ao56 t269.length co56 : Value).ownBlock ∧ some k_ ≠ (.slice Ao64 t282.length co64 : Value).ownBlock)) (by (with_reducible repeat (first | apply Kd.R_alloc | apply Kd.R_drewN | apply Kd.R_drew)); exact HO_13.out) hg (.inl rfl)); have n1_ := Aside0.mk (Kd.R_after (v := (.slice (some ⟨go93, 0, none⟩) t289.length co108)) (v1 := (.slice (some ⟨go93, 0, none⟩) t289.length co108)) (ok := (fun k_ => some k_ ≠ (.slice Ao49 t253.length co49 : Value).ownBlock ∧ some k_ ≠ (.slice Ao64 t282.length co64 : Value).ownBlock)) (by (with_reducible repeat (first | apply Kd.R_alloc | apply Kd.R_drewN | apply Kd.R_drew)); exact HO_275003.out) hg (.inl rfl)); have n2_ := Aside0.mk (Kd.R_after (v := (.slice (some ⟨go93, 0, none⟩) t289.length co108)) (v1 := (.slice (some ⟨go93, 0, none⟩) t289.length co108)) (ok := (fun k_ => some k_ ≠ (.slice Ao49 t253.length co49 : Value).ownBlock ∧ some k_ ≠ (.slice Ao56 t269.length co56 : Value).ownBlock)) (by (with_reducible repeat (first | apply Kd.R_alloc | apply Kd.R_drewN | apply Kd.R_drew)); exact HO_288003.out) hg (.inl rfl)); have n3_ := Aside0.mk (blk_grown (g := gb249) (o := .cells #[.int .i64 a0_0, .int .u64 a0_1, .int .u64 a0_2, .slice A0_3 l0_3.length c0_3] 25 (0, 0)) (by (with_reducible repeat (first | refine blk_drewN ?_ _ | refine blk_drew ?_ | refine blk_alloc ?_ _)); exact BK249.out) hg (Kd.R_ne HO291.out BK249.out (by decide))); have n4_ := Aside0.mk (blk_grown (g := gb274) (o := .cells #[.int .i64 t266, .int .u64 t267, .int .u64 t268, .slice Ao56 t269.length co56] 25 (0, 0)) (by (with_reducible repeat (first | refine blk_drewN ?_ _ | refine blk_drew ?_ | refine blk_alloc ?_ _)); exact BK274.out) hg (Kd.R_ne HO291.out BK274.out (by decide))); have n5_ := Aside0.mk (blk_grown (g := gb287) (o := .cells #[.int .i64 t279, .int .u64 t280, .int .u64 t281, .slice Ao64 t282.length co64] 25 (0, 0)) (by (with_reducible repeat (first | refine blk_drewN ?_ _ | refine blk_drew ?_ | refine blk_alloc ?_ _)); exact BK287.out) hg (Kd.R_ne HO291.out BK287.out (by decide))); have n6_ := Aside0.mk (hp_); have n7_ := Aside0.mk ((by rw [hw]; exact below_set (HB.out) GB93.out : Below w.heap.size w w110)); clear HO_13; clear HO_275003; clear HO_288003; clear BK249; clear BK274; clear BK287; clear HO291; clear HB; have HO_13 := n0_; have HO_275003 := n1_; have HO_288003 := n2_; have BK249 := n3_; have BK274 := n4_; have BK287 := n5_; have HO291 := n6_; have HB := n7_; clear n0_ n1_ n2_ n3_ n4_ n5_ n6_ n7_; clear hg hw hp_) | ((with_reducible refine gate_callee (f := 14) rfl ?_); refine goesL_ (some 138) rfl rfl Try.func14 (by kernel_rfl) rfl #[.slice (some ⟨go93, 0, none⟩) y293.length co108, .int .i64 0] rfl (by (try simp only [List.map_toArray, List.map_cons, List.map_nil]); first | done | (rw [show y293.length = t289.length from (Kd.R_reads' HO291.out).1.symm] <;> rfl) | rfl | (simp only [List.length_drop, List.length_take]; rfl)) ?_; (with_reducible refine (rec_Decode.calls _ _ y293 0 t294 t295 t296 t297 t300 t301 _ ?side1 ?side2 A94.out).mono ?_); (case side1 => repeat (first | exact (Kd.R_reads' HO291.out).2.2 | (with_reducible refine Kd.C_alloc ?_ _) | (with_reducible refine Kd.C_drewN ?_ _) | (with_reducible refine Kd.C_drew ?_))); (case side2 => rw [show y293.length = t289.length from (Kd.R_reads' HO291.out).1.symm]; exact (Kd.R_reads' HO291.out).2.1); rintro e w111 ⟨v298, rfl, ho0, hb⟩; refine ⟨_, rfl, ?_⟩; have n0_ := Aside0.mk (Kd.R_elder' (by (with_reducible repeat (first | apply Kd.R_alloc | apply Kd.R_drewN | apply Kd.R_drew)); exact HO_13.out) (Kd.R_base ho0) hb); have n1_ := Aside0.mk (Kd.R_elder' (by (with_reducible repeat (first | apply Kd.R_alloc | apply Kd.R_drewN | apply Kd.R_drew)); exact HO_275003.out) (Kd.R_base ho0) hb); have n2_ := Aside0.mk (Kd.R_elder' (by (with_reducible repeat (first | apply Kd.R_alloc | apply Kd.R_drewN | apply Kd.R_drew)); exact HO_288003.out) (Kd.R_base ho0) hb); have n3_ := Aside0.mk (Kd.R_elder' (by (with_reducible repeat (first | apply Kd.R_alloc | apply Kd.R_drewN | apply Kd.R_drew)); exact HO291.out) (Kd.R_base ho0) hb); have n4_ := Aside0.mk (Kd.R_lower (Kd.R_new' (Kd.R_new' (Kd.R_new' (Kd.R_new' ho0 (Kd.R_lt (by (with_reducible repeat (first | apply Kd.R_alloc | apply Kd.R_drewN | apply Kd.R_drew)); exact HO_13.out))) (Kd.R_lt (by (with_reducible repeat (first | apply Kd.R_alloc | apply Kd.R_drewN | apply Kd.R_drew)); exact HO_275003.out))) (Kd.R_lt (by (with_reducible repeat (first | apply Kd.R_alloc | apply Kd.R_drewN | apply Kd.R_drew)); exact HO_288003.out))) (Kd.R_lt (by (with_reducible repeat (first | apply Kd.R_alloc | apply Kd.R_drewN | apply Kd.R_drew)); exact HO291.out))) (below_size (by repeat (first | (with_reducible first | exact HB.out | apply below_alloc | apply pw_below_drewN | apply below_drew1 | refine below_set ?_ GE249.out | refine below_set ?_ GE274.out | refine below_set ?_ GE287.out) | exact HB.out)))); have n5_ := Aside0.mk (blk_below (g := gb249) (o := .cells #[.int .i64 a0_0, .int .u64 a0_1, .int .u64 a0_2, .slice A0_3 l0_3.length c0_3] 25 (0, 0)) (by (with_reducible repeat (first | refine blk_drewN ?_ _ | refine blk_drew ?_ | refine blk_alloc ?_ _)); exact BK249.out) hb); have n6_ := Aside0.mk (blk_below (g := gb274) (o := .cells #[.int .i64 t266, .int .u64 t267, .int .u64 t268, .slice Ao56 t269.length co56] 25 (0, 0)) (by (with_reducible repeat (first | refine blk_drewN ?_ _ | refine blk_drew ?_ | refine blk_alloc ?_ _)); exact BK274.out) hb); have n7_ := Aside0.mk (blk_below (g := gb287) (o := .cells #[.int .i64 t279, .int .u64 t280, .int .u64 t281, .slice Ao64 t282.length co64] 25 (0, 0)) (by (with_reducible repeat (first | refine blk_drewN ?_ _ | refine blk_drew ?_ | refine blk_alloc ?_ _)); exact BK287.out) hb); have n8_ := Aside0.mk (below_step (by repeat (first | (with_reducible first | exact HB.out | apply below_alloc | apply pw_below_drewN | apply below_drew1 | refine below_set ?_ GE249.out | refine below_set ?_ GE274.out | refine below_set ?_ GE287.out) | exact HB.out)) hb); clear HO_13; clear HO_275003; clear HO_288003; clear HO291; clear BK249; clear BK274; clear BK287; clear HB; have HO_13 := n0_; have HO_275003 := n1_; have HO_288003 := n2_; have HO291 := n3_; have HO299 := n4_; have BK249 := n5_; have BK274 := n6_; have BK287 := n7_; have HB := n8_; clear n0_ n1_ n2_ n3_ n4_ n5_ n6_ n7_ n8_; (try clear hb); (try clear hb2); (try clear hk); (try clear hi); (try clear ho0)) | ((with_reducible refine gate_dst (N := 24) rfl ?_); (try (refine gate_guard (by rfl) ?_; dsimp only)); refine box_event ?hg (N := 24) ?hd (cs := #[.int .i64 0, .int .u64 0, .int .u64 0, .slice none 0 0]) (t := 25) ?hr ?_; (case hd => rfl); (case hg => rfl); (case hr => first | (go_simp; done) | (go_simp; rfl)); intro gb302 hg w112 hbox hb; have n0_ := Aside0.mk (Kd.R_below (by (with_reducible repeat (first | apply Kd.R_alloc | apply Kd.R_drewN | apply Kd.R_drew)); exact HO_13.out) hb); have n1_ := Aside0.mk (Kd.R_below (by (with_reducible repeat (first | apply Kd.R_alloc | apply Kd.R_drewN | apply Kd.R_drew)); exact HO_275003.out) hb); have n2_ := Aside0.mk (Kd.R_below (by (with_reducible repeat (first | apply Kd.R_alloc | apply Kd.R_drewN | apply Kd.R_drew)); exact HO_288003.out) hb); have n3_ := Aside0.mk (Kd.R_below (by (with_reducible repeat (first | apply Kd.R_alloc | apply Kd.R_drewN | apply Kd.R_drew)); exact HO291.out) hb); have n4_ := Aside0.mk (Kd.R_below (by (with_reducible repeat (first | apply Kd.R_alloc | apply Kd.R_drewN | apply Kd.R_drew)); exact HO299.out) hb); have n5_ := Aside0.mk (blk_below (g := gb249) (o := .cells #[.int .i64 a0_0, .int .u64 a0_1, .int .u64 a0_2, .slice A0_3 l0_3.length c0_3] 25 (0, 0)) (by (with_reducible repeat (first | refine blk_drewN ?_ _ | refine blk_drew ?_ | refine blk_alloc ?_ _)); exact BK249.out) hb); have n6_ := Aside0.mk (blk_below (g := gb274) (o := .cells #[.int .i64 t266, .int .u64 t267, .int .u64 t268, .slice Ao56 t269.length co56] 25 (0, 0)) (by (with_reducible repeat (first | refine blk_drewN ?_ _ | refine blk_drew ?_ | refine blk_alloc ?_ _)); exact BK274.out) hb); have n7_ := Aside0.mk (blk_below (g := gb287) (o := .cells #[.int .i64 t279, .int .u64 t280, .int .u64 t281, .slice Ao64 t282.length co64] 25 (0, 0)) (by (with_reducible repeat (first | refine blk_drewN ?_ _ | refine blk_drew ?_ | refine blk_alloc ?_ _)); exact BK287.out) hb); have n8_ := Aside0.mk (below_step (by repeat (first | (with_reducible first | exact HB.out | apply below_alloc | apply pw_below_drewN | apply below_drew1 | refine below_set ?_ GE249.out | refine below_set ?_ GE274.out | refine below_set ?_ GE287.out) | exact HB.out)) hb); have n9_ := Aside0.mk (hbox); have n10_ := Aside0.mk ((by rw [hg]; exact (below_size (by repeat (first | (with_reducible first | exact HB.out | apply below_alloc | apply pw_below_drewN | apply below_drew1 | refine below_set ?_ GE249.out | refine below_set ?_ GE274.out | refine below_set ?_ GE287.out) | exact HB.out))) : w.heap.size ≤ gb302)); have n11_ := Aside0.mk ((by rw [hg]; exact (below_size (by repeat (first | (with_reducible first | exact HB.out | apply below_alloc | apply pw_below_drewN | apply below_drew1 | refine below_set ?_ GE249.out | refine below_set ?_ GE274.out | refine below_set ?_ GE287.out) | exact HB.out))) : w.heap.size ≤ gb302)); have n12_ := Aside0.mk ((by rw [hg]; exact Nat.ne_of_lt (blk_lt (g := gb249) (o := .cells #[.int .i64 a0_0, .int .u64 a0_1, .int .u64 a0_2, .slice A0_3 l0_3.length c0_3] 25 (0, 0)) (by (with_reducible repeat (first | refine blk_drewN ?_ _ | refine blk_drew ?_ | refine blk_alloc ?_ _)); exact BK249.out)) : gb249 ≠ gb302)); have n13_ := Aside0.mk ((by rw [hg]; exact Nat.ne_of_gt (blk_lt (g := gb249) (o := .cells #[.int .i64 a0_0, .int .u64 a0_1, .int .u64 a0_2, .slice A0_3 l0_3.length c0_3] 25 (0, 0)) (by (with_reducible repeat (first | refine blk_drewN ?_ _ | refine blk_drew ?_ | refine blk_alloc ?_ _)); exact BK249.out)) : gb302 ≠ gb249)); have n14_ := Aside0.mk ((by rw [hg]; exact Nat.ne_of_lt (blk_lt (g := gb274) (o := .cells #[.int .i64 t266, .int .u64 t267, .int .u64 t268, .slice Ao56 t269.length co56] 25 (0, 0)) (by (with_reducible repeat (first | refine blk_drewN ?_ _ | refine blk_drew ?_ | refine blk_alloc ?_ _)); exact BK274.out)) : gb274 ≠ gb302)); have n15_ := Aside0.mk ((by rw [hg]; exact Nat.ne_of_gt (blk_lt (g := gb274) (o := .cells #[.int .i64 t266, .int .u64 t267, .int .u64 t268, .slice Ao56 t269.length co56] 25 (0, 0)) (by (with_reducible repeat (first | refine blk_drewN ?_ _ | refine blk_drew ?_ | refine blk_alloc ?_ _)); exact BK274.out)) : gb302 ≠ gb274)); have n16_ := Aside0.mk ((by rw [hg]; exact Nat.ne_of_lt (blk_lt (g := gb287) (o := .cells #[.int .i64 t279, .int .u64 t280, .int .u64 t281, .slice Ao64 t282.length co64] 25 (0, 0)) (by (with_reducible repeat (first | refine blk_drewN ?_ _ | refine blk_drew ?_ | refine blk_alloc ?_ _)); exact BK287.out)) : gb287 ≠ gb302)); have n17_ := Aside0.mk ((by rw [hg]; exact Nat.ne_of_gt (blk_lt (g := gb287) (o := .cells #[.int .i64 t279, .int .u64 t280, .int .u64 t281, .slice Ao64 t282.length co64] 25 (0, 0)) (by (with_reducible repeat (first | refine blk_drewN ?_ _ | refine blk_drew ?_ | refine blk_alloc ?_ _)); exact BK287.out)) : gb302 ≠ gb287)); clear HO_13; clear HO_275003; clear HO_288003; clear HO291; clear HO299; clear BK249; clear BK274; clear BK287; clear HB; have HO_13 := n0_; have HO_275003 := n1_; have HO_288003 := n2_; have HO291 := n3_; have HO299 := n4_; have BK249 := n5_; have BK274 := n6_; have BK287 := n7_; have HB := n8_; have BK302 := n9_; have GW302 := n10_; have GE302 := n11_; have NB249_302 := n12_; have NB302_249 := n13_; have NB274_302 := n14_; have NB302_274 := n15_; have NB287_302 := n16_; have NB302_287 := n17_; clear n0_ n1_ n2_ n3_ n4_ n5_ n6_ n7_ n8_ n9_ n10_ n11_ n12_ n13_ n14_ n15_ n16_ n17_; clear hb hbox hg; have hnb113 := NB302_249.out; have hnc113 := NB249_302.out; have hnb114 := NB302_274.out; have hnc114 := NB274_302.out; have hnb115 := NB302_287.out; have hnc115 := NB287_302.out; have hcz116_0 : w112.cell? ⟨gb302, 0, none⟩ = some (.int .i64 0) := (blk_cell BK302.out 0).trans rfl; have hcz116_1 : w112.cell? ⟨gb302, 1, none⟩ = some (.int .u64 0) := (blk_cell BK302.out 1).trans rfl; have hcz116_2 : w112.cell? ⟨gb302, 2, none⟩ = some (.int .u64 0) := (blk_cell BK302.out 2).trans rfl; have hcz116_3 : w112.cell? ⟨gb302, 3, none⟩ = some (.slice none 0 0) := (blk_cell BK302.out 3).trans rfl; have hfz116_0 := blk_frozen BK302.out 0; have hfz116_1 := blk_frozen BK302.out 1; have hfz116_2 := blk_frozen BK302.out 2; have hfz116_3 := blk_frozen BK302.out 3; obtain ⟨Ao117, co117, eo117⟩ := Kd.R_slice HO299.out; subst eo117))
                                                    have n0_ : Aside0 (Kd.R (Kd.int .u8) 5 ((((w112.setCell ⟨gb302, 0, none⟩ (.int .i64 t294)).setCell ⟨gb302, 1, none⟩ (.int .u64 t295)).setCell ⟨gb302, 2, none⟩ (.int .u64 t296)).setCell ⟨gb302, 3, none⟩ (.slice Ao117 t297.length co117)) w.heap.size (fun k_ => some k_ ≠ (.slice Ao56 t269.length co56 : Value).ownBlock ∧ some k_ ≠ (.slice Ao64 t282.length co64 : Value).ownBlock ∧ some k_ ≠ (.slice (some ⟨go93, 0, none⟩) t289.length co108 : Value).ownBlock ∧ some k_ ≠ (.slice Ao117 t297.length co117 : Value).ownBlock) (.slice Ao49 t253.length co49) t253) := ⟨by (with_reducible repeat (first | apply Kd.R_alloc | apply Kd.R_drewN | apply Kd.R_drew)); exact Kd.R_mono (Kd.R_far (p := ⟨gb302, 3, none⟩) (Kd.R_far (p := ⟨gb302, 2, none⟩) (Kd.R_far (p := ⟨gb302, 1, none⟩) (Kd.R_far (p := ⟨gb302, 0, none⟩) (Kd.R_types HO_13.out BK302.out (by decide)) (fun _ hk => hk.2) (.int .i64 t294)) (fun _ hk => hk.2) (.int .u64 t295)) (fun _ hk => hk.2) (.int .u64 t296)) (fun _ hk => hk.2) (.slice Ao117 t297.length co117)) (fun _ hk => ⟨hk.1.1.1.1, ⟨hk.1.1.1.2, ⟨hk.1.1.2, hk.1.2⟩⟩⟩)⟩
                                                    have n1_ : Aside0 (Kd.R (Kd.int .u8) 5 ((((w112.setCell ⟨gb302, 0, none⟩ (.int .i64 t294)).setCell ⟨gb302, 1, none⟩ (.int .u64 t295)).setCell ⟨gb302, 2, none⟩ (.int .u64 t296)).setCell ⟨gb302, 3, none⟩ (.slice Ao117 t297.length co117)) w.heap.size (fun k_ => some k_ ≠ (.slice Ao49 t253.length co49 : Value).ownBlock ∧ some k_ ≠ (.slice Ao64 t282.length co64 : Value).ownBlock ∧ some k_ ≠ (.slice (some ⟨go93, 0, none⟩) t289.length co108 : Value).ownBlock ∧ some k_ ≠ (.slice Ao117 t297.length co117 : Value).ownBlock) (.slice Ao56 t269.length co56) t269) := ⟨by (with_reducible repeat (first | apply Kd.R_alloc | apply Kd.R_drewN | apply Kd.R_drew)); exact Kd.R_mono (Kd.R_far (p := ⟨gb302, 3, none⟩) (Kd.R_far (p := ⟨gb302, 2, none⟩) (Kd.R_far (p := ⟨gb302, 1, none⟩) (Kd.R_far (p := ⟨gb302, 0, none⟩) (Kd.R_types HO_275003.out BK302.out (by decide)) (fun _ hk => hk.2) (.int .i64 t294)) (fun _ hk => hk.2) (.int .u64 t295)) (fun _ hk => hk.2) (.int .u64 t296)) (fun _ hk => hk.2) (.slice Ao117 t297.length co117)) (fun _ hk => ⟨hk.1.1.1.1, ⟨hk.1.1.1.2, ⟨hk.1.1.2, hk.1.2⟩⟩⟩)⟩
                                                    have n2_ : Aside0 (Kd.R (Kd.int .u8) 5 ((((w112.setCell ⟨gb302, 0, none⟩ (.int .i64 t294)).setCell ⟨gb302, 1, none⟩ (.int .u64 t295)).setCell ⟨gb302, 2, none⟩ (.int .u64 t296)).setCell ⟨gb302, 3, none⟩ (.slice Ao117 t297.length co117)) w.heap.size (fun k_ => some k_ ≠ (.slice Ao49 t253.length co49 : Value).ownBlock ∧ some k_ ≠ (.slice Ao56 t269.length co56 : Value).ownBlock ∧ some k_ ≠ (.slice (some ⟨go93, 0, none⟩) t289.length co108 : Value).ownBlock ∧ some k_ ≠ (.slice Ao117 t297.length co117 : Value).ownBlock) (.slice Ao64 t282.length co64) t282) := ⟨by (with_reducible repeat (first | apply Kd.R_alloc | apply Kd.R_drewN | apply Kd.R_drew)); exact Kd.R_mono (Kd.R_far (p := ⟨gb302, 3, none⟩) (Kd.R_far (p := ⟨gb302, 2, none⟩) (Kd.R_far (p := ⟨gb302, 1, none⟩) (Kd.R_far (p := ⟨gb302, 0, none⟩) (Kd.R_types HO_288003.out BK302.out (by decide)) (fun _ hk => hk.2) (.int .i64 t294)) (fun _ hk => hk.2) (.int .u64 t295)) (fun _ hk => hk.2) (.int .u64 t296)) (fun _ hk => hk.2) (.slice Ao117 t297.length co117)) (fun _ hk => ⟨hk.1.1.1.1, ⟨hk.1.1.1.2, ⟨hk.1.1.2, hk.1.2⟩⟩⟩)⟩
                                                    have n3_ : Aside0 (Kd.R (Kd.int .u8) 5 ((((w112.setCell ⟨gb302, 0, none⟩ (.int .i64 t294)).setCell ⟨gb302, 1, none⟩ (.int .u64 t295)).setCell ⟨gb302, 2, none⟩ (.int .u64 t296)).setCell ⟨gb302, 3, none⟩ (.slice Ao117 t297.length co117)) w.heap.size (fun k_ => some k_ ≠ (.slice Ao49 t253.length co49 : Value).ownBlock ∧ some k_ ≠ (.slice Ao56 t269.length co56 : Value).ownBlock ∧ some k_ ≠ (.slice Ao64 t282.length co64 : Value).ownBlock ∧ some k_ ≠ (.slice Ao117 t297.length co117 : Value).ownBlock) (.slice (some ⟨go93, 0, none⟩) t289.length co108) y293) := ⟨by (with_reducible repeat (first | apply Kd.R_alloc | apply Kd.R_drewN | apply Kd.R_drew)); exact Kd.R_mono (Kd.R_far (p := ⟨gb302, 3, none⟩) (Kd.R_far (p := ⟨gb302, 2, none⟩) (Kd.R_far (p := ⟨gb302, 1, none⟩) (Kd.R_far (p := ⟨gb302, 0, none⟩) (Kd.R_types HO291.out BK302.out (by decide)) (fun _ hk => hk.2) (.int .i64 t294)) (fun _ hk => hk.2) (.int .u64 t295)) (fun _ hk => hk.2) (.int .u64 t296)) (fun _ hk => hk.2) (.slice Ao117 t297.length co117)) (fun _ hk => ⟨hk.1.1.1, ⟨hk.1.1.2.1, ⟨hk.1.1.2.2, hk.1.2⟩⟩⟩)⟩
                                                    have n4_ : Aside0 (Kd.R (Kd.int .u8) 5 ((((w112.setCell ⟨gb302, 0, none⟩ (.int .i64 t294)).setCell ⟨gb302, 1, none⟩ (.int .u64 t295)).setCell ⟨gb302, 2, none⟩ (.int .u64 t296)).setCell ⟨gb302, 3, none⟩ (.slice Ao117 t297.length co117)) w.heap.size (fun k_ => some k_ ≠ (.slice Ao49 t253.length co49 : Value).ownBlock ∧ some k_ ≠ (.slice Ao56 t269.length co56 : Value).ownBlock ∧ some k_ ≠ (.slice Ao64 t282.length co64 : Value).ownBlock ∧ some k_ ≠ (.slice (some ⟨go93, 0, none⟩) t289.length co108 : Value).ownBlock) (.slice Ao117 t297.length co117) t297) := ⟨by (with_reducible repeat (first | apply Kd.R_alloc | apply Kd.R_drewN | apply Kd.R_drew)); exact Kd.R_mono (Kd.R_far (p := ⟨gb302, 3, none⟩) (Kd.R_far (p := ⟨gb302, 2, none⟩) (Kd.R_far (p := ⟨gb302, 1, none⟩) (Kd.R_far (p := ⟨gb302, 0, none⟩) (Kd.R_types HO299.out BK302.out (by decide)) (fun _ hk => hk.2) (.int .i64 t294)) (fun _ hk => hk.2) (.int .u64 t295)) (fun _ hk => hk.2) (.int .u64 t296)) (fun _ hk => hk.2) (.slice Ao117 t297.length co117)) (fun _ hk => ⟨hk.1.1.1.1.2, ⟨hk.1.1.1.2, ⟨hk.1.1.2, hk.1.2⟩⟩⟩)⟩
                                                    have n5_ : Aside0 (((((w112.setCell ⟨gb302, 0, none⟩ (.int .i64 t294)).setCell ⟨gb302, 1, none⟩ (.int .u64 t295)).setCell ⟨gb302, 2, none⟩ (.int .u64 t296)).setCell ⟨gb302, 3, none⟩ (.slice Ao117 t297.length co117)).heap[gb249]? = some (.cells #[.int .i64 a0_0, .int .u64 a0_1, .int .u64 a0_2, .slice A0_3 l0_3.length c0_3] 25 (0, 0))) := ⟨by (with_reducible repeat (first | refine blk_drewN ?_ _ | refine blk_drew ?_ | refine blk_alloc ?_ _)); refine blk_far ?_ NB249_302.out _; (with_reducible repeat (first | refine blk_drewN ?_ _ | refine blk_drew ?_ | refine blk_alloc ?_ _)); refine blk_far ?_ NB249_302.out _; (with_reducible repeat (first | refine blk_drewN ?_ _ | refine blk_drew ?_ | refine blk_alloc ?_ _)); refine blk_far ?_ NB249_302.out _; (with_reducible repeat (first | refine blk_drewN ?_ _ | refine blk_drew ?_ | refine blk_alloc ?_ _)); refine blk_far ?_ NB249_302.out _; (with_reducible repeat (first | refine blk_drewN ?_ _ | refine blk_drew ?_ | refine blk_alloc ?_ _)); exact BK249.out⟩
                                                    have n6_ : Aside0 (((((w112.setCell ⟨gb302, 0, none⟩ (.int .i64 t294)).setCell ⟨gb302, 1, none⟩ (.int .u64 t295)).setCell ⟨gb302, 2, none⟩ (.int .u64 t296)).setCell ⟨gb302, 3, none⟩ (.slice Ao117 t297.length co117)).heap[gb274]? = some (.cells #[.int .i64 t266, .int .u64 t267, .int .u64 t268, .slice Ao56 t269.length co56] 25 (0, 0))) := ⟨by (with_reducible repeat (first | refine blk_drewN ?_ _ | refine blk_drew ?_ | refine blk_alloc ?_ _)); refine blk_far ?_ NB274_302.out _; (with_reducible repeat (first | refine blk_drewN ?_ _ | refine blk_drew ?_ | refine blk_alloc ?_ _)); refine blk_far ?_ NB274_302.out _; (with_reducible repeat (first | refine blk_drewN ?_ _ | refine blk_drew ?_ | refine blk_alloc ?_ _)); refine blk_far ?_ NB274_302.out _; (with_reducible repeat (first | refine blk_drewN ?_ _ | refine blk_drew ?_ | refine blk_alloc ?_ _)); refine blk_far ?_ NB274_302.out _; (with_reducible repeat (first | refine blk_drewN ?_ _ | refine blk_drew ?_ | refine blk_alloc ?_ _)); exact BK274.out⟩
                                                    have n7_ : Aside0 (((((w112.setCell ⟨gb302, 0, none⟩ (.int .i64 t294)).setCell ⟨gb302, 1, none⟩ (.int .u64 t295)).setCell ⟨gb302, 2, none⟩ (.int .u64 t296)).setCell ⟨gb302, 3, none⟩ (.slice Ao117 t297.length co117)).heap[gb287]? = some (.cells #[.int .i64 t279, .int .u64 t280, .int .u64 t281, .slice Ao64 t282.length co64] 25 (0, 0))) := ⟨by (with_reducible repeat (first | refine blk_drewN ?_ _ | refine blk_drew ?_ | refine blk_alloc ?_ _)); refine blk_far ?_ NB287_302.out _; (with_reducible repeat (first | refine blk_drewN ?_ _ | refine blk_drew ?_ | refine blk_alloc ?_ _)); refine blk_far ?_ NB287_302.out _; (with_reducible repeat (first | refine blk_drewN ?_ _ | refine blk_drew ?_ | refine blk_alloc ?_ _)); refine blk_far ?_ NB287_302.out _; (with_reducible repeat (first | refine blk_drewN ?_ _ | refine blk_drew ?_ | refine blk_alloc ?_ _)); refine blk_far ?_ NB287_302.out _; (with_reducible repeat (first | refine blk_drewN ?_ _ | refine blk_drew ?_ | refine blk_alloc ?_ _)); exact BK287.out⟩
                                                    have n8_ : Aside0 (((((w112.setCell ⟨gb302, 0, none⟩ (.int .i64 t294)).setCell ⟨gb302, 1, none⟩ (.int .u64 t295)).setCell ⟨gb302, 2, none⟩ (.int .u64 t296)).setCell ⟨gb302, 3, none⟩ (.slice Ao117 t297.length co117)).heap[gb302]? = some (.cells #[.int .i64 t294, .int .u64 t295, .int .u64 t296, .slice Ao117 t297.length co117] 25 (0, 0))) := ⟨by (with_reducible repeat (first | refine blk_drewN ?_ _ | refine blk_drew ?_ | refine blk_alloc ?_ _)); refine blk_put (cs := #[.int .i64 t294, .int .u64 t295, .int .u64 t296, .slice none 0 0]) ?_ 3 _ rfl; (with_reducible repeat (first | refine blk_drewN ?_ _ | refine blk_drew ?_ | refine blk_alloc ?_ _)); refine blk_put (cs := #[.int .i64 t294, .int .u64 t295, .int .u64 0, .slice none 0 0]) ?_ 2 _ rfl; (with_reducible repeat (first | refine blk_drewN ?_ _ | refine blk_drew ?_ | refine blk_alloc ?_ _)); refine blk_put (cs := #[.int .i64 t294, .int .u64 0, .int .u64 0, .slice none 0 0]) ?_ 1 _ rfl; (with_reducible repeat (first | refine blk_drewN ?_ _ | refine blk_drew ?_ | refine blk_alloc ?_ _)); refine blk_put (cs := #[.int .i64 0, .int .u64 0, .int .u64 0, .slice none 0 0]) ?_ 0 _ rfl; (with_reducible repeat (first | refine blk_drewN ?_ _ | refine blk_drew ?_ | refine blk_alloc ?_ _)); exact BK302.out⟩
                                                    have n9_ : Aside0 (Below w.heap.size w ((((w112.setCell ⟨gb302, 0, none⟩ (.int .i64 t294)).setCell ⟨gb302, 1, none⟩ (.int .u64 t295)).setCell ⟨gb302, 2, none⟩ (.int .u64 t296)).setCell ⟨gb302, 3, none⟩ (.slice Ao117 t297.length co117))) := ⟨by repeat (first | (with_reducible first | exact HB.out | apply below_alloc | apply pw_below_drewN | apply below_drew1 | refine below_set ?_ GE249.out | refine below_set ?_ GE274.out | refine below_set ?_ GE287.out | refine below_set ?_ GE302.out) | exact HB.out)⟩
                                                    (try clear HO_13)
                                                    (try clear HO_275003)
                                                    (try clear HO_288003)
                                                    (try clear HO291)
                                                    (try clear HO299)
                                                    (try clear BK249)
                                                    (try clear BK274)
                                                    (try clear BK287)
                                                    (try clear BK302)
                                                    (try clear HB)
                                                    generalize ((((w112.setCell ⟨gb302, 0, none⟩ (.int .i64 t294)).setCell ⟨gb302, 1, none⟩ (.int .u64 t295)).setCell ⟨gb302, 2, none⟩ (.int .u64 t296)).setCell ⟨gb302, 3, none⟩ (.slice Ao117 t297.length co117)) = w118 at n0_ n1_ n2_ n3_ n4_ n5_ n6_ n7_ n8_ n9_ ⊢
                                                    have HO_13 := n0_
                                                    have HO_275003 := n1_
                                                    have HO_288003 := n2_
                                                    have HO291 := n3_
                                                    have HO299 := n4_
                                                    have BK249 := n5_
                                                    have BK274 := n6_
                                                    have BK287 := n7_
                                                    have BK302 := n8_
                                                    have HB := n9_
                                                    clear n0_ n1_ n2_ n3_ n4_ n5_ n6_ n7_ n8_ n9_
                                                    have n0_ := Aside0.mk (Kd.R_drew HO_13.out)
                                                    have n1_ := Aside0.mk (Kd.R_drew HO_275003.out)
                                                    have n2_ := Aside0.mk (Kd.R_drew HO_288003.out)
                                                    have n3_ := Aside0.mk (Kd.R_drew HO291.out)
                                                    have n4_ := Aside0.mk (Kd.R_drew HO299.out)
                                                    have n5_ := Aside0.mk (blk_drew BK249.out)
                                                    have n6_ := Aside0.mk (blk_drew BK274.out)
                                                    have n7_ := Aside0.mk (blk_drew BK287.out)
                                                    have n8_ := Aside0.mk (blk_drew BK302.out)
                                                    have n9_ := Aside0.mk (below_drew1 HB.out)
                                                    clear HO_13
                                                    clear HO_275003
                                                    clear HO_288003
                                                    clear HO291
                                                    clear HO299
                                                    clear BK249
                                                    clear BK274
                                                    clear BK287
                                                    clear BK302
                                                    clear HB
                                                    have HO_13 := n0_
                                                    have HO_275003 := n1_
                                                    have HO_288003 := n2_
                                                    have HO291 := n3_
                                                    have HO299 := n4_
                                                    have BK249 := n5_
                                                    have BK274 := n6_
                                                    have BK287 := n7_
                                                    have BK302 := n8_
                                                    have HB := n9_
                                                    clear n0_ n1_ n2_ n3_ n4_ n5_ n6_ n7_ n8_ n9_
                                                    refine start_ (n := 25) (S := fun w' => w'.cell? ⟨gb302, 0, none⟩ = some (.int .i64 t294) ∧ w'.cell? ⟨gb302, 1, none⟩ = some (.int .u64 t295) ∧ w'.cell? ⟨gb302, 2, none⟩ = some (.int .u64 t296) ∧ w'.cell? ⟨gb302, 3, none⟩ = some (.slice Ao117 t297.length co117) ∧ w'.cell? ⟨gb249, 0, none⟩ = some (.int .i64 a0_0) ∧ w'.cell? ⟨gb249, 1, none⟩ = some (.int .u64 a0_1) ∧ w'.cell? ⟨gb249, 2, none⟩ = some (.int .u64 a0_2) ∧ w'.cell? ⟨gb249, 3, none⟩ = some (.slice A0_3 l0_3.length c0_3)) (ds := []) #[false, false, false, false, false, false, false, false, false, false, false, false, false, false, false, false, false, false, false, false, false, false, false, false, false] (by kernel_rfl) rfl rfl ⟨(blk_cell BK302.out 0).trans rfl, (blk_cell BK302.out 1).trans rfl, (blk_cell BK302.out 2).trans rfl, (blk_cell BK302.out 3).trans rfl, (blk_cell BK249.out 0).trans rfl, (blk_cell BK249.out 1).trans rfl, (blk_cell BK249.out 2).trans rfl, (blk_cell BK249.out 3).trans rfl⟩ (fun hHeld => ?_); refine with_tabW tiklaw15_RecBack.tab19 tiklaw15_RecBack.bits19 (fun HT_ HW_ => ?_)
                                                    generalize w118.drew = w119 at HO_13 HO_275003 HO_288003 HO291 HO299 BK249 BK274 BK287 BK302 HB hHeld ⊢
                                                    refine one_ (i := 0) (N := some 145) #[true, false, false, false, false, false, false, false, false, false, false, false, false, false, false, false, false, false, false, false, false, false, false, false, false] rfl rfl (one_of HT_.out (by kernel_rfl)) (by decide) (fun K hK => ?_)
                                                    refine goes_ Try.func10 (by kernel_rfl) rfl #[] (by rfl) rfl rfl (by (try simp only [List.map_toArray, List.map_cons, List.map_nil]); first | done | rfl | (simp only [List.length_drop, List.length_take]; rfl)) ?_
                                                    with_reducible refine (tiklaw15_first.calls kj45  true _ A96.out).mono ?_
                                                    rintro e w120 ⟨rfl, hb⟩
                                                    refine ⟨_, rfl, ?_⟩
                                                    have n0_ := Aside0.mk (Kd.R_below (by (with_reducible repeat (first | apply Kd.R_alloc | apply Kd.R_drewN | apply Kd.R_drew)); exact HO_13.out) hb)
                                                    have n1_ := Aside0.mk (Kd.R_below (by (with_reducible repeat (first | apply Kd.R_alloc | apply Kd.R_drewN | apply Kd.R_drew)); exact HO_275003.out) hb)
                                                    have n2_ := Aside0.mk (Kd.R_below (by (with_reducible repeat (first | apply Kd.R_alloc | apply Kd.R_drewN | apply Kd.R_drew)); exact HO_288003.out) hb)
                                                    have n3_ := Aside0.mk (Kd.R_below (by (with_reducible repeat (first | apply Kd.R_alloc | apply Kd.R_drewN | apply Kd.R_drew)); exact HO291.out) hb)
                                                    have n4_ := Aside0.mk (Kd.R_below (by (with_reducible repeat (first | apply Kd.R_alloc | apply Kd.R_drewN | apply Kd.R_drew)); exact HO299.out) hb)
                                                    have n5_ := Aside0.mk (blk_below (g := gb249) (o := .cells #[.int .i64 a0_0, .int .u64 a0_1, .int .u64 a0_2, .slice A0_3 l0_3.length c0_3] 25 (0, 0)) (by (with_reducible repeat (first | refine blk_drewN ?_ _ | refine blk_drew ?_ | refine blk_alloc ?_ _)); exact BK249.out) hb)
                                                    have n6_ := Aside0.mk (blk_below (g := gb274) (o := .cells #[.int .i64 t266, .int .u64 t267, .int .u64 t268, .slice Ao56 t269.length co56] 25 (0, 0)) (by (with_reducible repeat (first | refine blk_drewN ?_ _ | refine blk_drew ?_ | refine blk_alloc ?_ _)); exact BK274.out) hb)
                                                    have n7_ := Aside0.mk (blk_below (g := gb287) (o := .cells #[.int .i64 t279, .int .u64 t280, .int .u64 t281, .slice Ao64 t282.length co64] 25 (0, 0)) (by (with_reducible repeat (first | refine blk_drewN ?_ _ | refine blk_drew ?_ | refine blk_alloc ?_ _)); exact BK287.out) hb)
                                                    have n8_ := Aside0.mk (blk_below (g := gb302) (o := .cells #[.int .i64 t294, .int .u64 t295, .int .u64 t296, .slice Ao117 t297.length co117] 25 (0, 0)) (by (with_reducible repeat (first | refine blk_drewN ?_ _ | refine blk_drew ?_ | refine blk_alloc ?_ _)); exact BK302.out) hb)
                                                    have n9_ := Aside0.mk (below_step (by repeat (first | (with_reducible first | exact HB.out | apply below_alloc | apply pw_below_drewN | apply below_drew1 | refine below_set ?_ GE249.out | refine below_set ?_ GE274.out | refine below_set ?_ GE287.out | refine below_set ?_ GE302.out) | exact HB.out)) hb)
                                                    clear HO_13
                                                    clear HO_275003
                                                    clear HO_288003
                                                    clear HO291
                                                    clear HO299
                                                    clear BK249
                                                    clear BK274
                                                    clear BK287
                                                    clear BK302
                                                    clear HB
                                                    have HO_13 := n0_
                                                    have HO_275003 := n1_
                                                    have HO_288003 := n2_
                                                    have HO291 := n3_
                                                    have HO299 := n4_
                                                    have BK249 := n5_
                                                    have BK274 := n6_
                                                    have BK287 := n7_
                                                    have BK302 := n8_
                                                    have HB := n9_
                                                    clear n0_ n1_ n2_ n3_ n4_ n5_ n6_ n7_ n8_ n9_
                                                    (try clear hb)
                                                    (try clear hb2)
                                                    (try clear hk)
                                                    (try clear hi)
                                                    refine hK.out _ _ ⟨(blk_cell BK302.out 0).trans rfl, (blk_cell BK302.out 1).trans rfl, (blk_cell BK302.out 2).trans rfl, (blk_cell BK302.out 3).trans rfl, (blk_cell BK249.out 0).trans rfl, (blk_cell BK249.out 1).trans rfl, (blk_cell BK249.out 2).trans rfl, (blk_cell BK249.out 3).trans rfl⟩ (fun hHeld => ?_)
                                                    clear hK K
                                                    refine norm_ (a' := ?_) ?_ ?_
                                                    rotate_left
                                                    · show Act.put _ (some 145) _ = _
                                                      simp only [Act.put, List.setIfInBounds_toArray, List.set_cons_zero, List.set_cons_succ, i64_w, i32_w]
                                                      rfl
                                                    refine pure_ (i := 1) (N := some 146) (v := ?_) (a' := ?_) #[true, true, false, false, false, false, false, false, false, false, false, false, false, false, false, false, false, false, false, false, false, false, false, false, false] rfl rfl (any_of HT_.out (by kernel_rfl)) (fun _ _ _ h => h) (Or.inl ⟨by rfl, ?_⟩) ?_ ?_
                                                    rotate_left
                                                    · intro w'
                                                      go_simp
                                                      with_reducible rfl
                                                    rotate_left
                                                    · simp only [Act.put, List.setIfInBounds_toArray, List.set_cons_zero, List.set_cons_succ, i64_w, i32_w]
                                                      rfl
                                                    refine pure_ (i := 2) (N := some 147) (v := ?_) (a' := ?_) #[true, true, true, false, false, false, false, false, false, false, false, false, false, false, false, false, false, false, false, false, false, false, false, false, false] rfl rfl (any_of HT_.out (by kernel_rfl)) (fun _ _ _ h => h) (Or.inl ⟨by rfl, ?_⟩) ?_ ?_
                                                    rotate_left
                                                    · intro w'
                                                      go_simp
                                                      with_reducible rfl
                                                    rotate_left
                                                    · simp only [Act.put, List.setIfInBounds_toArray, List.set_cons_zero, List.set_cons_succ, i64_w, i32_w]
                                                      rfl
                                                    refine pure_ (i := 3) (N := some 148) (v := ?_) (a' := ?_) #[true, true, true, true, false, false, false, false, false, false, false, false, false, false, false, false, false, false, false, false, false, false, false, false, false] rfl rfl (any_of HT_.out (by kernel_rfl)) (fun _ _ _ h => h) (Or.inl ⟨by rfl, ?_⟩) ?_ ?_
                                                    rotate_left
                                                    · intro w'
                                                      go_simp
                                                      with_reducible rfl
                                                    rotate_left
                                                    · simp only [Act.put, List.setIfInBounds_toArray, List.set_cons_zero, List.set_cons_succ, i64_w, i32_w]
                                                      rfl
                                                    refine pure_ (i := 4) (N := some 149) (v := ?_) (a' := ?_) #[true, true, true, true, true, false, false, false, false, false, false, false, false, false, false, false, false, false, false, false, false, false, false, false, false] rfl rfl (any_of HT_.out (by kernel_rfl)) (fun _ _ _ h => h) (Or.inl ⟨by rfl, ?_⟩) ?_ ?_
                                                    rotate_left
                                                    · intro w'
                                                      go_simp
                                                      with_reducible rfl
                                                    rotate_left
                                                    · simp only [Act.put, List.setIfInBounds_toArray, List.set_cons_zero, List.set_cons_succ, i64_w, i32_w]
                                                      rfl
                                                    refine pure_ (i := 5) (N := some 150) (v := ?_) (a' := ?_) #[true, true, true, true, true, true, false, false, false, false, false, false, false, false, false, false, false, false, false, false, false, false, false, false, false] rfl rfl (any_of HT_.out (by kernel_rfl)) (fun _ _ _ h => h) (Or.inl ⟨by rfl, ?_⟩) ?_ ?_
                                                    rotate_left
                                                    · intro w'
                                                      go_simp
                                                      with_reducible rfl
                                                    rotate_left
                                                    · simp only [Act.put, List.setIfInBounds_toArray, List.set_cons_zero, List.set_cons_succ, i64_w, i32_w]
                                                      rfl
                                                    refine pure_ (i := 6) (N := some 151) (v := ?_) (a' := ?_) #[true, true, true, true, true, true, true, false, false, false, false, false, false, false, false, false, false, false, false, false, false, false, false, false, false] rfl rfl (any_of HT_.out (by kernel_rfl)) (fun _ _ _ h => h) (Or.inl ⟨by rfl, ?_⟩) ?_ ?_
                                                    rotate_left
                                                    · intro w'
                                                      go_simp
                                                      with_reducible rfl
                                                    rotate_left
                                                    · simp only [Act.put, List.setIfInBounds_toArray, List.set_cons_zero, List.set_cons_succ, i64_w, i32_w]
                                                      rfl
                                                    refine pure_ (i := 7) (N := some 152) (v := ?_) (a' := ?_) #[true, true, true, true, true, true, true, true, false, false, false, false, false, false, false, false, false, false, false, false, false, false, false, false, false] rfl rfl (any_of HT_.out (by kernel_rfl)) (fun _ _ _ h => h) (Or.inl ⟨by rfl, ?_⟩) ?_ ?_
                                                    rotate_left
                                                    · intro w'
                                                      go_simp
                                                      with_reducible rfl
                                                    rotate_left
                                                    · simp only [Act.put, List.setIfInBounds_toArray, List.set_cons_zero, List.set_cons_succ, i64_w, i32_w]
                                                      rfl
                                                    refine take_ (i := 8) (N := some 153) (v := ?_) (a' := ?_) #[true, true, true, true, true, true, true, true, true, false, false, false, false, false, false, false, false, false, false, false, false, false, false, false, false] rfl rfl (take_ofW HT_.out HW_.out (by kernel_rfl)) (fun _ _ _ h => h) (Or.inl ⟨by rfl, ?_⟩) hHeld ?_ ?_
                                                    rotate_left
                                                    · rintro w' ⟨s0, s1, s2, s3, s4, s5, s6, s7⟩
                                                      go_simp
                                                      with_reducible rfl
                                                    rotate_left
                                                    · simp only [Act.put, List.setIfInBounds_toArray, List.set_cons_zero, List.set_cons_succ, i64_w, i32_w]
                                                      rfl
                                                    refine take_ (i := 9) (N := some 154) (v := ?_) (a' := ?_) #[true, true, true, true, true, true, true, true, true, true, false, false, false, false, false, false, false, false, false, false, false, false, false, false, false] rfl rfl (take_ofW HT_.out HW_.out (by kernel_rfl)) (fun _ _ _ h => h) (Or.inl ⟨by rfl, ?_⟩) hHeld ?_ ?_
                                                    rotate_left
                                                    · rintro w' ⟨s0, s1, s2, s3, s4, s5, s6, s7⟩
                                                      go_simp
                                                      with_reducible rfl
                                                    rotate_left
                                                    · simp only [Act.put, List.setIfInBounds_toArray, List.set_cons_zero, List.set_cons_succ, i64_w, i32_w]
                                                      rfl
                                                    refine one_ (i := 10) (N := some 155) #[true, true, true, true, true, true, true, true, true, true, true, false, false, false, false, false, false, false, false, false, false, false, false, false, false] rfl rfl (one_of HT_.out (by kernel_rfl)) (by decide) (fun K hK => ?_)
                                                    refine goes_ Try.func20 (by kernel_rfl) rfl #[.agg #[.int .i64 t294, .int .u64 t295, .int .u64 t296, .slice Ao117 t297.length co117], .agg #[.int .i64 a0_0, .int .u64 a0_1, .int .u64 a0_2, .slice A0_3 l0_3.length c0_3]] (by rfl) rfl rfl (by (try simp only [List.map_toArray, List.map_cons, List.map_nil]); first | done | rfl | (simp only [List.length_drop, List.length_take]; rfl)) ?_
                                                    with_reducible refine (rec_Same.calls t294 t295 t296 _ _ t297 a0_0 a0_1 a0_2 _ _ l0_3 false _ ?side1 ?side2 ?side3 ?side4 A99.out).mono ?_
                                                    (case side1 => repeat (first | exact (Kd.R_reads' HO299.out).2.2 | (with_reducible refine Kd.C_alloc ?_ _) | (with_reducible refine Kd.C_drewN ?_ _) | (with_reducible refine Kd.C_drew ?_)))
                                                    (case side2 => exact (Kd.R_reads' HO299.out).2.1)
                                                    (case side3 => repeat (first | exact (Kd.C_below HR0_3.out HB.out) | (with_reducible refine Kd.C_alloc ?_ _) | (with_reducible refine Kd.C_drewN ?_ _) | (with_reducible refine Kd.C_drew ?_)))
                                                    (case side4 => exact HC0_3.out)
                                                    rintro e w121 ⟨rfl, hb⟩
                                                    refine ⟨_, rfl, ?_⟩
                                                    have n0_ := Aside0.mk (Kd.R_below (by (with_reducible repeat (first | apply Kd.R_alloc | apply Kd.R_drewN | apply Kd.R_drew)); exact HO_13.out) hb)
                                                    have n1_ := Aside0.mk (Kd.R_below (by (with_reducible repeat (first | apply Kd.R_alloc | apply Kd.R_drewN | apply Kd.R_drew)); exact HO_275003.out) hb)
                                                    have n2_ := Aside0.mk (Kd.R_below (by (with_reducible repeat (first | apply Kd.R_alloc | apply Kd.R_drewN | apply Kd.R_drew)); exact HO_288003.out) hb)
                                                    have n3_ := Aside0.mk (Kd.R_below (by (with_reducible repeat (first | apply Kd.R_alloc | apply Kd.R_drewN | apply Kd.R_drew)); exact HO291.out) hb)
                                                    have n4_ := Aside0.mk (Kd.R_below (by (with_reducible repeat (first | apply Kd.R_alloc | apply Kd.R_drewN | apply Kd.R_drew)); exact HO299.out) hb)
                                                    have n5_ := Aside0.mk (blk_below (g := gb249) (o := .cells #[.int .i64 a0_0, .int .u64 a0_1, .int .u64 a0_2, .slice A0_3 l0_3.length c0_3] 25 (0, 0)) (by (with_reducible repeat (first | refine blk_drewN ?_ _ | refine blk_drew ?_ | refine blk_alloc ?_ _)); exact BK249.out) hb)
                                                    have n6_ := Aside0.mk (blk_below (g := gb274) (o := .cells #[.int .i64 t266, .int .u64 t267, .int .u64 t268, .slice Ao56 t269.length co56] 25 (0, 0)) (by (with_reducible repeat (first | refine blk_drewN ?_ _ | refine blk_drew ?_ | refine blk_alloc ?_ _)); exact BK274.out) hb)
                                                    have n7_ := Aside0.mk (blk_below (g := gb287) (o := .cells #[.int .i64 t279, .int .u64 t280, .int .u64 t281, .slice Ao64 t282.length co64] 25 (0, 0)) (by (with_reducible repeat (first | refine blk_drewN ?_ _ | refine blk_drew ?_ | refine blk_alloc ?_ _)); exact BK287.out) hb)
                                                    have n8_ := Aside0.mk (blk_below (g := gb302) (o := .cells #[.int .i64 t294, .int .u64 t295, .int .u64 t296, .slice Ao117 t297.length co117] 25 (0, 0)) (by (with_reducible repeat (first | refine blk_drewN ?_ _ | refine blk_drew ?_ | refine blk_alloc ?_ _)); exact BK302.out) hb)
                                                    have n9_ := Aside0.mk (below_step (by repeat (first | (with_reducible first | exact HB.out | apply below_alloc | apply pw_below_drewN | apply below_drew1 | refine below_set ?_ GE249.out | refine below_set ?_ GE274.out | refine below_set ?_ GE287.out | refine below_set ?_ GE302.out) | exact HB.out)) hb)
                                                    clear HO_13
                                                    clear HO_275003
                                                    clear HO_288003
                                                    clear HO291
                                                    clear HO299
                                                    clear BK249
                                                    clear BK274
                                                    clear BK287
                                                    clear BK302
                                                    clear HB
                                                    have HO_13 := n0_
                                                    have HO_275003 := n1_
                                                    have HO_288003 := n2_
                                                    have HO291 := n3_
                                                    have HO299 := n4_
                                                    have BK249 := n5_
                                                    have BK274 := n6_
                                                    have BK287 := n7_
                                                    have BK302 := n8_
                                                    have HB := n9_
                                                    clear n0_ n1_ n2_ n3_ n4_ n5_ n6_ n7_ n8_ n9_
                                                    (try clear hb)
                                                    (try clear hb2)
                                                    (try clear hk)
                                                    (try clear hi)
                                                    have hlx122 := (Kd.R_reads' HO291.out).1
                                                    have q122 : (t300 : Int) ≤ ((t289.length : Int) : Int) := of_decide_eq_true (by first | (with_reducible assumption) | assumption)
                                                    obtain ⟨i0122, hi0122, _, hsz122, _⟩ := info_parts info5
                                                    have hroom122 : t289.length ≤ co108 := (Kd.R_reads' HO291.out).2.1
                                                    have hroomc122 : y293.length ≤ co108 := (by rw [← hlx122]; exact hroom122)
                                                    have hC122 : Kd.C (Kd.int .u8) _ (some ⟨go93, 0, none⟩) y293.length y293 := (Kd.R_reads' HO291.out).2.2
                                                    have ql122 : (6 : Int) ≤ (t300 : Int) := of_decide_eq_true (by first | (with_reducible assumption) | assumption)
                                                    have hcut122 := cut_mid (P := Try.prog) 23 5 .i64 .i64 Try.underlying23 hi0122 1 hsz122 (some ⟨go93, 0, none⟩) t289.length co108 6 t300 (by omega) ql122 q122 hroom122
                                                    have hr122 := Kd.C_mid (lo := (6 : Int).toNat) (hi := (t300 : Int).toNat) (c := co108) hC122 (by omega) (by omega) hroomc122
                                                    obtain ⟨A122, hA122⟩ : ∃ A1, A1 = (if co108 = (6 : Int).toNat then (some ⟨go93, 0, none⟩) else ((some ⟨go93, 0, none⟩) : Option Addr).map (·.add ((6 : Int).toNat * 1))) := ⟨_, rfl⟩
                                                    obtain ⟨c122, hc122⟩ : ∃ c1, c1 = co108 - (6 : Int).toNat := ⟨_, rfl⟩
                                                    have hy122 : y306.length = (t300 : Int).toNat - (6 : Int).toNat := (by rw [Ny306.out, List.length_drop, List.length_take] <;> omega)
                                                    rw [show ((y293).take (t300 : Int).toNat).drop (6 : Int).toNat = y306 from Ny306.out.symm] at hr122
                                                    replace hr122 : Kd.C (Kd.int .u8) _ A122 y306.length y306 := (by rw [hA122]; exact hr122)
                                                    rw [← hy122, ← hA122, ← hc122] at hcut122
                                                    have HR309 := Aside0.mk hr122
                                                    have HC309 := Aside0.mk (show y306.length ≤ c122 from by rw [hy122, hc122]; exact Nat.sub_le_sub_right (Nat.le_trans (by omega) hroom122) _)
                                                    clear hr122 hC122 hroom122 hi0122 hsz122 hc122 hroomc122
                                                    have KY122 := Aside0.mk hy122
                                                    have KA122 := Aside0.mk hA122
                                                    clear hy122 hA122
                                                    have KE122 := Aside0.mk hlx122
                                                    have KL122 := Aside0.mk (show (t300 : Int).toNat ≤ y293.length from by omega)
                                                    have KM122 := Aside0.mk (show 6 ≤ (t300 : Int).toNat from by omega)
                                                    clear hlx122
                                                    replace q122 := eq_true q122
                                                    refine hK.out _ _ ⟨(blk_cell BK302.out 0).trans rfl, (blk_cell BK302.out 1).trans rfl, (blk_cell BK302.out 2).trans rfl, (blk_cell BK302.out 3).trans rfl, (blk_cell BK249.out 0).trans rfl, (blk_cell BK249.out 1).trans rfl, (blk_cell BK249.out 2).trans rfl, (blk_cell BK249.out 3).trans rfl⟩ (fun hHeld => ?_)
                                                    clear hK K
                                                    refine norm_ (a' := ?_) ?_ ?_
                                                    rotate_left
                                                    · show Act.put _ (some 155) _ = _
                                                      simp only [Act.put, List.setIfInBounds_toArray, List.set_cons_zero, List.set_cons_succ, i64_w, i32_w]
                                                      rfl
                                                    refine pure_ (i := 11) (N := some 156) (v := ?_) (a' := ?_) #[true, true, true, true, true, true, true, true, true, true, true, true, false, false, false, false, false, false, false, false, false, false, false, false, false] rfl rfl (any_of HT_.out (by kernel_rfl)) (fun _ _ _ h => h) (Or.inl ⟨by rfl, ?_⟩) ?_ ?_
                                                    rotate_left
                                                    · intro w'
                                                      go_simp
                                                      with_reducible rfl
                                                    rotate_left
                                                    · simp only [Act.put, List.setIfInBounds_toArray, List.set_cons_zero, List.set_cons_succ, i64_w, i32_w]
                                                      rfl
                                                    refine pure_ (i := 12) (N := some 157) (v := ?_) (a' := ?_) #[true, true, true, true, true, true, true, true, true, true, true, true, true, false, false, false, false, false, false, false, false, false, false, false, false] rfl rfl (any_of HT_.out (by kernel_rfl)) (fun _ _ _ h => h) (Or.inl ⟨by rfl, ?_⟩) ?_ ?_
                                                    rotate_left
                                                    · intro w'
                                                      go_simp
                                                      with_reducible rfl
                                                    rotate_left
                                                    · simp only [Act.put, List.setIfInBounds_toArray, List.set_cons_zero, List.set_cons_succ, i64_w, i32_w]
                                                      rfl
                                                    refine pure_ (i := 13) (N := some 158) (v := ?_) (a' := ?_) #[true, true, true, true, true, true, true, true, true, true, true, true, true, true, false, false, false, false, false, false, false, false, false, false, false] rfl rfl (any_of HT_.out (by kernel_rfl)) (fun _ _ _ h => h) (Or.inl ⟨by rfl, ?_⟩) ?_ ?_
                                                    rotate_left
                                                    · intro w'
                                                      go_simp
                                                      with_reducible rfl
                                                    rotate_left
                                                    · simp only [Act.put, List.setIfInBounds_toArray, List.set_cons_zero, List.set_cons_succ, i64_w, i32_w]
                                                      rfl
                                                    refine pure_ (i := 14) (N := some 159) (v := ?_) (a' := ?_) #[true, true, true, true, true, true, true, true, true, true, true, true, true, true, true, false, false, false, false, false, false, false, false, false, false] rfl rfl (any_of HT_.out (by kernel_rfl)) (fun _ _ _ h => h) (Or.inl ⟨by rfl, ?_⟩) ?_ ?_
                                                    rotate_left
                                                    · intro w'
                                                      go_simp
                                                      with_reducible rfl
                                                    rotate_left
                                                    · simp only [Act.put, List.setIfInBounds_toArray, List.set_cons_zero, List.set_cons_succ, i64_w, i32_w]
                                                      rfl
                                                    refine pure_ (i := 15) (N := some 160) (v := ?_) (a' := ?_) #[true, true, true, true, true, true, true, true, true, true, true, true, true, true, true, true, false, false, false, false, false, false, false, false, false] rfl rfl (any_of HT_.out (by kernel_rfl)) (fun _ _ _ h => h) (Or.inl ⟨by rfl, ?_⟩) ?_ ?_
                                                    rotate_left
                                                    · intro w'
                                                      go_simp
                                                      with_reducible rfl
                                                    rotate_left
                                                    · simp only [Act.put, List.setIfInBounds_toArray, List.set_cons_zero, List.set_cons_succ, i64_w, i32_w]
                                                      rfl
                                                    refine pure_ (i := 16) (N := some 161) (v := ?_) (a' := ?_) #[true, true, true, true, true, true, true, true, true, true, true, true, true, true, true, true, true, false, false, false, false, false, false, false, false] rfl rfl (any_of HT_.out (by kernel_rfl)) (fun _ _ _ h => h) (Or.inl ⟨by rfl, ?_⟩) ?_ ?_
                                                    rotate_left
                                                    · intro w'
                                                      go_simp
                                                      with_reducible rfl
                                                    rotate_left
                                                    · simp only [Act.put, List.setIfInBounds_toArray, List.set_cons_zero, List.set_cons_succ, i64_w, i32_w]
                                                      rfl
                                                    refine pure_ (i := 18) (N := some 163) (v := ?_) (a' := ?_) #[true, true, true, true, true, true, true, true, true, true, true, true, true, true, true, true, true, false, true, false, false, false, false, false, false] rfl rfl (any_of HT_.out (by kernel_rfl)) (fun _ _ _ h => h) (Or.inl ⟨by rfl, ?_⟩) ?_ ?_
                                                    rotate_left
                                                    · intro w'
                                                      go_simp
                                                      with_reducible rfl
                                                    rotate_left
                                                    · simp only [Act.put, List.setIfInBounds_toArray, List.set_cons_zero, List.set_cons_succ, i64_w, i32_w]
                                                      rfl
                                                    have hlx123 := (Kd.R_reads' HO291.out).1
                                                    have q123 : (6 : Int) ≤ ((t289.length : Int) : Int) := of_decide_eq_true (by first | (with_reducible assumption) | assumption)
                                                    obtain ⟨i0123, hi0123, _, hsz123, _⟩ := info_parts info5
                                                    have hroom123 : t289.length ≤ co108 := (Kd.R_reads' HO291.out).2.1
                                                    have hroomc123 : y293.length ≤ co108 := (by rw [← hlx123]; exact hroom123)
                                                    have hC123 : Kd.C (Kd.int .u8) _ (some ⟨go93, 0, none⟩) y293.length y293 := (Kd.R_reads' HO291.out).2.2
                                                    have ql123 : (2 : Int) ≤ (6 : Int) := (by omega)
                                                    have hcut123 := cut_mid (P := Try.prog) 23 5 .i64 .i64 Try.underlying23 hi0123 1 hsz123 (some ⟨go93, 0, none⟩) t289.length co108 2 6 (by omega) ql123 q123 hroom123
                                                    have hr123 := Kd.C_mid (lo := (2 : Int).toNat) (hi := (6 : Int).toNat) (c := co108) hC123 (by omega) (by omega) hroomc123
                                                    obtain ⟨A123, hA123⟩ : ∃ A1, A1 = (if co108 = (2 : Int).toNat then (some ⟨go93, 0, none⟩) else ((some ⟨go93, 0, none⟩) : Option Addr).map (·.add ((2 : Int).toNat * 1))) := ⟨_, rfl⟩
                                                    obtain ⟨c123, hc123⟩ : ∃ c1, c1 = co108 - (2 : Int).toNat := ⟨_, rfl⟩
                                                    have hy123 : y311.length = (6 : Int).toNat - (2 : Int).toNat := (by rw [Ny311.out, List.length_drop, List.length_take] <;> omega)
                                                    rw [show ((y293).take (6 : Int).toNat).drop (2 : Int).toNat = y311 from Ny311.out.symm] at hr123
                                                    replace hr123 : Kd.C (Kd.int .u8) _ A123 y311.length y311 := (by rw [hA123]; exact hr123)
                                                    rw [← hy123, ← hA123, ← hc123] at hcut123
                                                    have HR314 := Aside0.mk hr123
                                                    have HC314 := Aside0.mk (show y311.length ≤ c123 from by rw [hy123, hc123]; exact Nat.sub_le_sub_right (Nat.le_trans (by omega) hroom123) _)
                                                    clear hr123 hC123 hroom123 hi0123 hsz123 hc123 hroomc123
                                                    have KY123 := Aside0.mk hy123
                                                    have KA123 := Aside0.mk hA123
                                                    clear hy123 hA123
                                                    have KE123 := Aside0.mk hlx123
                                                    have KL123 := Aside0.mk (show 6 ≤ y293.length from by omega)
                                                    have KM123 := Aside0.mk (show 2 ≤ 6 from by omega)
                                                    clear hlx123
                                                    replace q123 := eq_true q123
                                                    refine pure_ (i := 19) (N := some 164) (v := ?_) (a' := ?_) #[true, true, true, true, true, true, true, true, true, true, true, true, true, true, true, true, true, false, true, true, false, false, false, false, false] rfl rfl (any_of HT_.out (by kernel_rfl)) (fun _ _ _ h => h) (Or.inl ⟨by rfl, ?_⟩) ?_ ?_
                                                    rotate_left
                                                    · intro w'
                                                      go_simp
                                                      with_reducible rfl
                                                    rotate_left
                                                    · simp only [Act.put, List.setIfInBounds_toArray, List.set_cons_zero, List.set_cons_succ, i64_w, i32_w]
                                                      rfl
                                                    refine one_ (i := 17) (N := some 162) #[true, true, true, true, true, true, true, true, true, true, true, true, true, true, true, true, true, true, true, true, false, false, false, false, false] rfl rfl (one_of HT_.out (by kernel_rfl)) (by decide) (fun K hK => ?_)
                                                    refine goes_ Try.func22 (by kernel_rfl) rfl #[.slice A122 y306.length c122] (by rfl) rfl rfl (by (try simp only [List.map_toArray, List.map_cons, List.map_nil]); first | done | rfl | (simp only [List.length_drop, List.length_take]; rfl)) ?_
                                                    with_reducible refine (tikref2_Crc.calls kj45 _ _ y306 t310 _ ?side1 ?side2 A103.out).mono ?_
                                                    (case side1 => repeat (first | exact (by repeat (first | (with_reducible exact HR309.out) | (with_reducible refine Kd.C_alloc ?_ _) | (with_reducible refine Kd.C_drewN ?_ _) | (with_reducible refine Kd.C_drew ?_) | exact HR309.out)) | (with_reducible refine Kd.C_alloc ?_ _) | (with_reducible refine Kd.C_drewN ?_ _) | (with_reducible refine Kd.C_drew ?_)))
                                                    (case side2 => exact HC309.out)
                                                    rintro e w' ⟨rfl, ⟨nd, rfl⟩⟩
                                                    refine ⟨_, rfl, ?_⟩
                                                    refine hK.out _ _ ⟨(blk_cell BK302.out 0).trans rfl, (blk_cell BK302.out 1).trans rfl, (blk_cell BK302.out 2).trans rfl, (blk_cell BK302.out 3).trans rfl, (blk_cell BK249.out 0).trans rfl, (blk_cell BK249.out 1).trans rfl, (blk_cell BK249.out 2).trans rfl, (blk_cell BK249.out 3).trans rfl⟩ (fun hHeld => ?_)
                                                    clear hK K
                                                    refine norm_ (a' := ?_) ?_ ?_
                                                    rotate_left
                                                    · show Act.put _ (some 162) _ = _
                                                      simp only [Act.put, List.setIfInBounds_toArray, List.set_cons_zero, List.set_cons_succ, i64_w, i32_w]
                                                      rfl
                                                    refine one_ (i := 20) (N := some 165) #[true, true, true, true, true, true, true, true, true, true, true, true, true, true, true, true, true, true, true, true, true, false, false, false, false] rfl rfl (one_of HT_.out (by kernel_rfl)) (by decide) (fun K hK => ?_)
                                                    refine goes_ Try.func23 (by kernel_rfl) rfl #[.slice A123 y311.length c123] (by rfl) rfl rfl (by (try simp only [List.map_toArray, List.map_cons, List.map_nil]); first | done | rfl | (simp only [List.length_drop, List.length_take]; rfl)) ?_
                                                    with_reducible refine (tikref2_Big.calls kj45 _ _ y311 t315 _ ?side1 ?side2 A106.out).mono ?_
                                                    (case side1 => repeat (first | exact (by repeat (first | (with_reducible exact HR314.out) | (with_reducible refine Kd.C_alloc ?_ _) | (with_reducible refine Kd.C_drewN ?_ _) | (with_reducible refine Kd.C_drew ?_) | exact HR314.out)) | (with_reducible refine Kd.C_alloc ?_ _) | (with_reducible refine Kd.C_drewN ?_ _) | (with_reducible refine Kd.C_drew ?_)))
                                                    (case side2 => exact HC314.out)
                                                    rintro e w' ⟨rfl, ⟨nd, rfl⟩⟩
                                                    refine ⟨_, rfl, ?_⟩
                                                    refine hK.out _ _ ⟨(blk_cell BK302.out 0).trans rfl, (blk_cell BK302.out 1).trans rfl, (blk_cell BK302.out 2).trans rfl, (blk_cell BK302.out 3).trans rfl, (blk_cell BK249.out 0).trans rfl, (blk_cell BK249.out 1).trans rfl, (blk_cell BK249.out 2).trans rfl, (blk_cell BK249.out 3).trans rfl⟩ (fun hHeld => ?_)
                                                    clear hK K
                                                    refine norm_ (a' := ?_) ?_ ?_
                                                    rotate_left
                                                    · show Act.put _ (some 165) _ = _
                                                      simp only [Act.put, List.setIfInBounds_toArray, List.set_cons_zero, List.set_cons_succ, i64_w, i32_w]
                                                      rfl
                                                    refine pure_ (i := 21) (N := some 166) (v := ?_) (a' := ?_) #[true, true, true, true, true, true, true, true, true, true, true, true, true, true, true, true, true, true, true, true, true, true, false, false, false] rfl rfl (any_of HT_.out (by kernel_rfl)) (fun _ _ _ h => h) (Or.inl ⟨by rfl, ?_⟩) ?_ ?_
                                                    rotate_left
                                                    · intro w'
                                                      go_simp
                                                      with_reducible rfl
                                                    rotate_left
                                                    · simp only [Act.put, List.setIfInBounds_toArray, List.set_cons_zero, List.set_cons_succ, i64_w, i32_w]
                                                      rfl
                                                    refine pure_ (i := 22) (N := some 167) (v := ?_) (a' := ?_) #[true, true, true, true, true, true, true, true, true, true, true, true, true, true, true, true, true, true, true, true, true, true, true, false, false] rfl rfl (any_of HT_.out (by kernel_rfl)) (fun _ _ _ h => h) (Or.inl ⟨by rfl, ?_⟩) ?_ ?_
                                                    rotate_left
                                                    · intro w'
                                                      go_simp
                                                      with_reducible rfl
                                                    rotate_left
                                                    · simp only [Act.put, List.setIfInBounds_toArray, List.set_cons_zero, List.set_cons_succ, i64_w, i32_w]
                                                      rfl
                                                    refine pure_ (i := 23) (N := some 168) (v := ?_) (a' := ?_) #[true, true, true, true, true, true, true, true, true, true, true, true, true, true, true, true, true, true, true, true, true, true, true, true, false] rfl rfl (any_of HT_.out (by kernel_rfl)) (fun _ _ _ h => h) (Or.inl ⟨by rfl, ?_⟩) ?_ ?_
                                                    rotate_left
                                                    · intro w'
                                                      go_simp
                                                      with_reducible rfl
                                                    rotate_left
                                                    · simp only [Act.put, List.setIfInBounds_toArray, List.set_cons_zero, List.set_cons_succ, i64_w, i32_w]
                                                      rfl
                                                    refine pure_ (i := 24) (N := some 12) (v := ?_) (a' := ?_) #[true, true, true, true, true, true, true, true, true, true, true, true, true, true, true, true, true, true, true, true, true, true, true, true, true] rfl rfl (any_of HT_.out (by kernel_rfl)) (fun _ _ _ h => h) (Or.inl ⟨by rfl, ?_⟩) ?_ ?_
                                                    rotate_left
                                                    · intro w'
                                                      go_simp
                                                      with_reducible rfl
                                                    rotate_left
                                                    · simp only [Act.put, List.setIfInBounds_toArray, List.set_cons_zero, List.set_cons_succ, i64_w, i32_w]
                                                      rfl
                                                    refine done_ (done_of HT_.out (by kernel_rfl)) ?_
                                                    try go_wp2
                                                    go_ret
                                                    exact ⟨by first | rfl | (simp [errW_none, errW_some] <;> rfl) | (simp only [← hji42, ← hji90]; first | rfl | (simp [errW_none, errW_some] <;> rfl)) | (simp [*, errW_none, errW_some] <;> rfl), by repeat (first | (with_reducible first | exact HB.out | apply below_alloc | apply pw_below_drewN | apply below_drew1 | refine below_set ?_ GE249.out | refine below_set ?_ GE274.out | refine below_set ?_ GE287.out | refine below_set ?_ GE302.out) | exact HB.out)⟩
                                                  · rw [if_neg c105] at H
                                                    exact absurd H (by simp)
                                                · rw [if_neg c104] at H
                                                  exact absurd H (by simp)
                                              · rw [if_neg c101] at H
                                                exact absurd H (by simp)
                                          · rw [if_neg c98] at H
                                            have c98b0 : decide (t300 ≤ (t289.length : Int)) = false := decide_eq_false c98
                                            clear c98
                                            exact absurd ((Option.some.inj H).trans hr_.out) (by simp)
                                        · replace c97 := Bool.eq_false_iff.mpr c97
                                          subst c97
                                          have H1 : (some false) = some r := by rw [if_neg (show ¬ (false = true) by decide)] at H; exact H
                                          clear H
                                          have H := H1
                                          clear H1
                                          exact absurd ((Option.some.inj H).trans hr_.out) (by simp)
                                      · rw [if_neg c95] at H
                                        have c95b0 : (t301 == 0) = false := beq_eq_false_iff_ne.mpr c95
                                        have c95b1 : (t301 != 0) = true := bne_iff_ne.mpr c95
                                        replace H := Option.bind_eq_some_iff.mp H
                                        obtain ⟨t303, A1240, H⟩ := H
                                        replace H : (some t303) = some r := H
                                        have A124 := Aside0.mk A1240
                                        clear A1240
                                        obtain rfl := Option.some.inj H
                                        go_wp2_with (first | ((with_reducible refine gate_callee (f := 21) rfl ?_); refine goesL_ (some 120) rfl rfl Try.func21 (by kernel_rfl) rfl #[.slice Ao49 t253.length co49] rfl (by (try simp only [List.map_toArray, List.map_cons, List.map_nil]); first | done | rfl | (simp only [List.length_drop, List.length_take]; rfl)) ?_; (with_reducible refine (tikref_CopyBytes.calls _ _ t253 t289 _ ?side1 ?side2 A88.out).mono ?_); (case side1 => repeat (first | exact (Kd.R_reads' HO_13.out).2.2 | (with_reducible refine Kd.C_alloc ?_ _) | (with_reducible refine Kd.C_drewN ?_ _) | (with_reducible refine Kd.C_drew ?_))); (case side2 => exact (Kd.R_reads' HO_13.out).2.1); rintro e w125 ⟨v290, rfl, ho0, hb⟩; refine ⟨_, rfl, ?_⟩; have n0_ := Aside0.mk (Kd.R_elder' (by (with_reducible repeat (first | apply Kd.R_alloc | apply Kd.R_drewN | apply Kd.R_drew)); exact HO_13.out) (Kd.R_base ho0) hb); have n1_ := Aside0.mk (Kd.R_elder' (by (with_reducible repeat (first | apply Kd.R_alloc | apply Kd.R_drewN | apply Kd.R_drew)); exact HO_275003.out) (Kd.R_base ho0) hb); have n2_ := Aside0.mk (Kd.R_elder' (by (with_reducible repeat (first | apply Kd.R_alloc | apply Kd.R_drewN | apply Kd.R_drew)); exact HO_288003.out) (Kd.R_base ho0) hb); have n3_ := Aside0.mk (Kd.R_lower (Kd.R_new' (Kd.R_new' (Kd.R_new' ho0 (Kd.R_lt (by (with_reducible repeat (first | apply Kd.R_alloc | apply Kd.R_drewN | apply Kd.R_drew)); exact HO_13.out))) (Kd.R_lt (by (with_reducible repeat (first | apply Kd.R_alloc | apply Kd.R_drewN | apply Kd.R_drew)); exact HO_275003.out))) (Kd.R_lt (by (with_reducible repeat (first | apply Kd.R_alloc | apply Kd.R_drewN | apply Kd.R_drew)); exact HO_288003.out))) (below_size (by repeat (first | (with_reducible first | exact HB.out | apply below_alloc | apply pw_below_drewN | apply below_drew1 | refine below_set ?_ GE249.out | refine below_set ?_ GE274.out | refine below_set ?_ GE287.out) | exact HB.out)))); have n4_ := Aside0.mk (blk_below (g := gb249) (o := .cells #[.int .i64 a0_0, .int .u64 a0_1, .int .u64 a0_2, .slice A0_3 l0_3.length c0_3] 25 (0, 0)) (by (with_reducible repeat (first | refine blk_drewN ?_ _ | refine blk_drew ?_ | refine blk_alloc ?_ _)); exact BK249.out) hb); have n5_ := Aside0.mk (blk_below (g := gb274) (o := .cells #[.int .i64 t266, .int .u64 t267, .int .u64 t268, .slice Ao56 t269.length co56] 25 (0, 0)) (by (with_reducible repeat (first | refine blk_drewN ?_ _ | refine blk_drew ?_ | refine blk_alloc ?_ _)); exact BK274.out) hb); have n6_ := Aside0.mk (blk_below (g := gb287) (o := .cells #[.int .i64 t279, .int .u64 t280, .int .u64 t281, .slice Ao64 t282.length co64] 25 (0, 0)) (by (with_reducible repeat (first | refine blk_drewN ?_ _ | refine blk_drew ?_ | refine blk_alloc ?_ _)); exact BK287.out) hb); have n7_ := Aside0.mk (below_step (by repeat (first | (with_reducible first | exact HB.out | apply below_alloc | apply pw_below_drewN | apply below_drew1 | refine below_set ?_ GE249.out | refine below_set ?_ GE274.out | refine below_set ?_ GE287.out) | exact HB.out)) hb); clear HO_13; clear HO_275003; clear HO_288003; clear BK249; clear BK274; clear BK287; clear HB; have HO_13 := n0_; have HO_275003 := n1_; have HO_288003 := n2_; have HO291 := n3_; have BK249 := n4_; have BK274 := n5_; have BK287 := n6_; have HB := n7_; clear n0_ n1_ n2_ n3_ n4_ n5_ n6_ n7_; (try clear hb); (try clear hb2); (try clear hk); (try clear hi); (try clear ho0); obtain ⟨Ao126, co126, eo126⟩ := Kd.R_slice HO291.out; subst eo126; have p292 : 0 ≤ ((ji90) : Int) := of_decide_eq_true (by first | (with_reducible assumption) | assumption); have q292 : (ji90) < (t289.length : Int) := of_decide_eq_true (by first | (with_reducible assumption) | assumption); obtain ⟨ad292, e292, hx292_0⟩ := Kd.at_int (Kd.R_reads' HO291.out).2.2 (ji90) p292 q292; cases e292; replace p292 := eq_true p292; replace q292 := eq_true q292; have p93 : 0 ≤ ((ji90) : Int) := of_decide_eq_true (by first | (with_reducible assumption) | assumption); have q93 : ((ji90) : Int) < ((t289.length : Int) : Int) := of_decide_eq_true (by first | (with_reducible assumption) | assumption); obtain ⟨go93, co93, eo93, gb93, gl93, cl93, HG93⟩ := Kd.R_form HO291.out (by omega); (first | cases eo93 | (injection eo93 with ea_ en_ ec_; (first | subst ea_ | (injection ea_ with ea_; subst ea_)); subst ec_; clear en_)); have GB93 := Aside0.mk gb93; have GG93 := Aside0.mk HG93; clear gb93 gl93 HG93; (first | simp only [add_plain] at hx292_0 | skip); obtain ⟨hx93_0, hf93_0⟩ := Kd.R_celln 0 HO291.out ((ji90) : Int) p93 q93; replace p93 := eq_true p93; replace q93 := eq_true q93; have n_ := Aside0.mk (Kd.R_mono (ok' := (fun k_ => some k_ ≠ (.slice Ao49 t253.length co49 : Value).ownBlock ∧ some k_ ≠ (.slice Ao56 t269.length co56 : Value).ownBlock ∧ some k_ ≠ (.slice Ao64 t282.length co64 : Value).ownBlock)) HO291.out (fun k_ hk => ⟨hk.1.1.2, ⟨hk.1.2, hk.2⟩⟩)); clear HO291; have HO291 := n_; clear n_; obtain ⟨hy127_, hz127_⟩ := Kd.R_celln 0 HO291.out ((ji90) : Int) (of_decide_eq_true (by first | (with_reducible assumption) | assumption)) (of_decide_eq_true (by first | (with_reducible assumption) | assumption)); have HP127 := Kd.R_putg HO291.out ((ji90) : Int) (Go.bits .xor .u8 (rd t289 (ji90)) a5)) | ((with_reducible refine gate_store (t := 5) (p := 135) rfl ?_); refine store_event (t := 5) (p := 135) (v := ?vo_w128) (w1 := (w125.setCell ⟨go93, ((ji90) : Int).toNat, none⟩ (.int .u8 (Go.bits .xor .u8 (rd t289 (ji90)) a5)))) ?hg ?ho ?hn ?hr ?_; (case ho => rfl); (case hg => rfl); (case hn => rfl); (case hr => first | (go_simp; done) | (go_simp; rfl)); intro w128 hw; have hg : w125.grownBy w128 (some go93) := (by rw [hw]; exact HP127.2); have hp_ : Kd.R (Kd.int .u8) 5 w128 w.heap.size (fun k_ => some k_ ≠ (.slice Ao49 t253.length co49 : Value).ownBlock ∧ some k_ ≠ (.slice Ao56 t269.length co56 : Value).ownBlock ∧ some k_ ≠ (.slice Ao64 t282.length co64 : Value).ownBlock) (.slice (some ⟨go93, 0, none⟩) t289.length co126) y293 := (by rw [hw, Ny293.out]; exact HP127.1); clear HP127; have n0_ := Aside0.mk (Kd.R_after (v := (.slice (some ⟨go93, 0, none⟩) t289.length co126)) (v1 := (.slice (some ⟨go93, 0, none⟩) t289.length co126)) (ok := (fun k_ => some k_ ≠ (.slice Ao56 t269.length co56 : Value).ownBlock ∧ some k_ ≠ (.slice Ao64 t282.length co64 : Value).ownBlock)) (by (with_reducible repeat (first | apply Kd.R_alloc | apply Kd.R_drewN | apply Kd.R_drew)); exact HO_13.out) hg (.inl rfl)); have n1_ := Aside0.mk (Kd.R_after (v := (.slice (some ⟨go93, 0, none⟩) t289.length co126)) (v1 := (.slice (some ⟨go93, 0, none⟩) t289.length co126)) (ok := (fun k_ => some k_ ≠ (.slice Ao49 t253.length co49 : Value).ownBlock ∧ some k_ ≠ (.slice Ao64 t282.length co64 : Value).ownBlock)) (by (with_reducible repeat (first | apply Kd.R_alloc | apply Kd.R_drewN | apply Kd.R_drew)); exact HO_275003.out) hg (.inl rfl)); have n2_ := Aside0.mk (Kd.R_after (v := (.slice (some ⟨go93, 0, none⟩) t289.length co126)) (v1 := (.slice (some ⟨go93, 0, none⟩) t289.length co126)) (ok := (fun k_ => some k_ ≠ (.slice Ao49 t253.length co49 : Value).ownBlock ∧ some k_ ≠ (.slice Ao56 t269.length co56 : Value).ownBlock)) (by (with_reducible repeat (first | apply Kd.R_alloc | apply Kd.R_drewN | apply Kd.R_drew)); exact HO_288003.out) hg (.inl rfl)); have n3_ := Aside0.mk (blk_grown (g := gb249) (o := .cells #[.int .i64 a0_0, .int .u64 a0_1, .int .u64 a0_2, .slice A0_3 l0_3.length c0_3] 25 (0, 0)) (by (with_reducible repeat (first | refine blk_drewN ?_ _ | refine blk_drew ?_ | refine blk_alloc ?_ _)); exact BK249.out) hg (Kd.R_ne HO291.out BK249.out (by decide))); have n4_ := Aside0.mk (blk_grown (g := gb274) (o := .cells #[.int .i64 t266, .int .u64 t267, .int .u64 t268, .slice Ao56 t269.length co56] 25 (0, 0)) (by (with_reducible repeat (first | refine blk_drewN ?_ _ | refine blk_drew ?_ | refine blk_alloc ?_ _)); exact BK274.out) hg (Kd.R_ne HO291.out BK274.out (by decide))); have n5_ := Aside0.mk (blk_grown (g := gb287) (o := .cells #[.int .i64 t279, .int .u64 t280, .int .u64 t281, .slice Ao64 t282.length co64] 25 (0, 0)) (by (with_reducible repeat (first | refine blk_drewN ?_ _ | refine blk_drew ?_ | refine blk_alloc ?_ _)); exact BK287.out) hg (Kd.R_ne HO291.out BK287.out (by decide))); have n6_ := Aside0.mk (hp_); have n7_ := Aside0.mk ((by rw [hw]; exact below_set (HB.out) GB93.out : Below w.heap.size w w128)); clear HO_13; clear HO_275003; clear HO_288003; clear BK249; clear BK274; clear BK287; clear HO291; clear HB; have HO_13 := n0_; have HO_275003 := n1_; have HO_288003 := n2_; have BK249 := n3_; have BK274 := n4_; have BK287 := n5_; have HO291 := n6_; have HB := n7_; clear n0_ n1_ n2_ n3_ n4_ n5_ n6_ n7_; clear hg hw hp_) | ((with_reducible refine gate_callee (f := 14) rfl ?_); refine goesL_ (some 138) rfl rfl Try.func14 (by kernel_rfl) rfl #[.slice (some ⟨go93, 0, none⟩) y293.length co126, .int .i64 0] rfl (by (try simp only [List.map_toArray, List.map_cons, List.map_nil]); first | done | (rw [show y293.length = t289.length from (Kd.R_reads' HO291.out).1.symm] <;> rfl) | rfl | (simp only [List.length_drop, List.length_take]; rfl)) ?_; (with_reducible refine (rec_Decode.calls _ _ y293 0 t294 t295 t296 t297 t300 t301 _ ?side1 ?side2 A94.out).mono ?_); (case side1 => repeat (first | exact (Kd.R_reads' HO291.out).2.2 | (with_reducible refine Kd.C_alloc ?_ _) | (with_reducible refine Kd.C_drewN ?_ _) | (with_reducible refine Kd.C_drew ?_))); (case side2 => rw [show y293.length = t289.length from (Kd.R_reads' HO291.out).1.symm]; exact (Kd.R_reads' HO291.out).2.1); rintro e w129 ⟨v298, rfl, ho0, hb⟩; refine ⟨_, rfl, ?_⟩; have n0_ := Aside0.mk (Kd.R_elder' (by (with_reducible repeat (first | apply Kd.R_alloc | apply Kd.R_drewN | apply Kd.R_drew)); exact HO_13.out) (Kd.R_base ho0) hb); have n1_ := Aside0.mk (Kd.R_elder' (by (with_reducible repeat (first | apply Kd.R_alloc | apply Kd.R_drewN | apply Kd.R_drew)); exact HO_275003.out) (Kd.R_base ho0) hb); have n2_ := Aside0.mk (Kd.R_elder' (by (with_reducible repeat (first | apply Kd.R_alloc | apply Kd.R_drewN | apply Kd.R_drew)); exact HO_288003.out) (Kd.R_base ho0) hb); have n3_ := Aside0.mk (Kd.R_elder' (by (with_reducible repeat (first | apply Kd.R_alloc | apply Kd.R_drewN | apply Kd.R_drew)); exact HO291.out) (Kd.R_base ho0) hb); have n4_ := Aside0.mk (Kd.R_lower (Kd.R_new' (Kd.R_new' (Kd.R_new' (Kd.R_new' ho0 (Kd.R_lt (by (with_reducible repeat (first | apply Kd.R_alloc | apply Kd.R_drewN | apply Kd.R_drew)); exact HO_13.out))) (Kd.R_lt (by (with_reducible repeat (first | apply Kd.R_alloc | apply Kd.R_drewN | apply Kd.R_drew)); exact HO_275003.out))) (Kd.R_lt (by (with_reducible repeat (first | apply Kd.R_alloc | apply Kd.R_drewN | apply Kd.R_drew)); exact HO_288003.out))) (Kd.R_lt (by (with_reducible repeat (first | apply Kd.R_alloc | apply Kd.R_drewN | apply Kd.R_drew)); exact HO291.out))) (below_size (by repeat (first | (with_reducible first | exact HB.out | apply below_alloc | apply pw_below_drewN | apply below_drew1 | refine below_set ?_ GE249.out | refine below_set ?_ GE274.out | refine below_set ?_ GE287.out) | exact HB.out)))); have n5_ := Aside0.mk (blk_below (g := gb249) (o := .cells #[.int .i64 a0_0, .int .u64 a0_1, .int .u64 a0_2, .slice A0_3 l0_3.length c0_3] 25 (0, 0)) (by (with_reducible repeat (first | refine blk_drewN ?_ _ | refine blk_drew ?_ | refine blk_alloc ?_ _)); exact BK249.out) hb); have n6_ := Aside0.mk (blk_below (g := gb274) (o := .cells #[.int .i64 t266, .int .u64 t267, .int .u64 t268, .slice Ao56 t269.length co56] 25 (0, 0)) (by (with_reducible repeat (first | refine blk_drewN ?_ _ | refine blk_drew ?_ | refine blk_alloc ?_ _)); exact BK274.out) hb); have n7_ := Aside0.mk (blk_below (g := gb287) (o := .cells #[.int .i64 t279, .int .u64 t280, .int .u64 t281, .slice Ao64 t282.length co64] 25 (0, 0)) (by (with_reducible repeat (first | refine blk_drewN ?_ _ | refine blk_drew ?_ | refine blk_alloc ?_ _)); exact BK287.out) hb); have n8_ := Aside0.mk (below_step (by repeat (first | (with_reducible first | exact HB.out | apply below_alloc | apply pw_below_drewN | apply below_drew1 | refine below_set ?_ GE249.out | refine below_set ?_ GE274.out | refine below_set ?_ GE287.out) | exact HB.out)) hb); clear HO_13; clear HO_275003; clear HO_288003; clear HO291; clear BK249; clear BK274; clear BK287; clear HB; have HO_13 := n0_; have HO_275003 := n1_; have HO_288003 := n2_; have HO291 := n3_; have HO299 := n4_; have BK249 := n5_; have BK274 := n6_; have BK287 := n7_; have HB := n8_; clear n0_ n1_ n2_ n3_ n4_ n5_ n6_ n7_ n8_; (try clear hb); (try clear hb2); (try clear hk); (try clear hi); (try clear ho0)) | ((with_reducible refine gate_dst (N := 24) rfl ?_); (try (refine gate_guard (by rfl) ?_; dsimp only)); refine box_event ?hg (N := 24) ?hd (cs := #[.int .i64 0, .int .u64 0, .int .u64 0, .slice none 0 0]) (t := 25) ?hr ?_; (case hd => rfl); (case hg => rfl); (case hr => first | (go_simp; done) | (go_simp; rfl)); intro gb302 hg w130 hbox hb; have n0_ := Aside0.mk (Kd.R_below (by (with_reducible repeat (first | apply Kd.R_alloc | apply Kd.R_drewN | apply Kd.R_drew)); exact HO_13.out) hb); have n1_ := Aside0.mk (Kd.R_below (by (with_reducible repeat (first | apply Kd.R_alloc | apply Kd.R_drewN | apply Kd.R_drew)); exact HO_275003.out) hb); have n2_ := Aside0.mk (Kd.R_below (by (with_reducible repeat (first | apply Kd.R_alloc | apply Kd.R_drewN | apply Kd.R_drew)); exact HO_288003.out) hb); have n3_ := Aside0.mk (Kd.R_below (by (with_reducible repeat (first | apply Kd.R_alloc | apply Kd.R_drewN | apply Kd.R_drew)); exact HO291.out) hb); have n4_ := Aside0.mk (Kd.R_below (by (with_reducible repeat (first | apply Kd.R_alloc | apply Kd.R_drewN | apply Kd.R_drew)); exact HO299.out) hb); have n5_ := Aside0.mk (blk_below (g := gb249) (o := .cells #[.int .i64 a0_0, .int .u64 a0_1, .int .u64 a0_2, .slice A0_3 l0_3.length c0_3] 25 (0, 0)) (by (with_reducible repeat (first | refine blk_drewN ?_ _ | refine blk_drew ?_ | refine blk_alloc ?_ _)); exact BK249.out) hb); have n6_ := Aside0.mk (blk_below (g := gb274) (o := .cells #[.int .i64 t266, .int .u64 t267, .int .u64 t268, .slice Ao56 t269.length co56] 25 (0, 0)) (by (with_reducible repeat (first | refine blk_drewN ?_ _ | refine blk_drew ?_ | refine blk_alloc ?_ _)); exact BK274.out) hb); have n7_ := Aside0.mk (blk_below (g := gb287) (o := .cells #[.int .i64 t279, .int .u64 t280, .int .u64 t281, .slice Ao64 t282.length co64] 25 (0, 0)) (by (with_reducible repeat (first | refine blk_drewN ?_ _ | refine blk_drew ?_ | refine blk_alloc ?_ _)); exact BK287.out) hb); have n8_ := Aside0.mk (below_step (by repeat (first | (with_reducible first | exact HB.out | apply below_alloc | apply pw_below_drewN | apply below_drew1 | refine below_set ?_ GE249.out | refine below_set ?_ GE274.out | refine below_set ?_ GE287.out) | exact HB.out)) hb); have n9_ := Aside0.mk (hbox); have n10_ := Aside0.mk ((by rw [hg]; exact (below_size (by repeat (first | (with_reducible first | exact HB.out | apply below_alloc | apply pw_below_drewN | apply below_drew1 | refine below_set ?_ GE249.out | refine below_set ?_ GE274.out | refine below_set ?_ GE287.out) | exact HB.out))) : w.heap.size ≤ gb302)); have n11_ := Aside0.mk ((by rw [hg]; exact (below_size (by repeat (first | (with_reducible first | exact HB.out | apply below_alloc | apply pw_below_drewN | apply below_drew1 | refine below_set ?_ GE249.out | refine below_set ?_ GE274.out | refine below_set ?_ GE287.out) | exact HB.out))) : w.heap.size ≤ gb302)); have n12_ := Aside0.mk ((by rw [hg]; exact Nat.ne_of_lt (blk_lt (g := gb249) (o := .cells #[.int .i64 a0_0, .int .u64 a0_1, .int .u64 a0_2, .slice A0_3 l0_3.length c0_3] 25 (0, 0)) (by (with_reducible repeat (first | refine blk_drewN ?_ _ | refine blk_drew ?_ | refine blk_alloc ?_ _)); exact BK249.out)) : gb249 ≠ gb302)); have n13_ := Aside0.mk ((by rw [hg]; exact Nat.ne_of_gt (blk_lt (g := gb249) (o := .cells #[.int .i64 a0_0, .int .u64 a0_1, .int .u64 a0_2, .slice A0_3 l0_3.length c0_3] 25 (0, 0)) (by (with_reducible repeat (first | refine blk_drewN ?_ _ | refine blk_drew ?_ | refine blk_alloc ?_ _)); exact BK249.out)) : gb302 ≠ gb249)); have n14_ := Aside0.mk ((by rw [hg]; exact Nat.ne_of_lt (blk_lt (g := gb274) (o := .cells #[.int .i64 t266, .int .u64 t267, .int .u64 t268, .slice Ao56 t269.length co56] 25 (0, 0)) (by (with_reducible repeat (first | refine blk_drewN ?_ _ | refine blk_drew ?_ | refine blk_alloc ?_ _)); exact BK274.out)) : gb274 ≠ gb302)); have n15_ := Aside0.mk ((by rw [hg]; exact Nat.ne_of_gt (blk_lt (g := gb274) (o := .cells #[.int .i64 t266, .int .u64 t267, .int .u64 t268, .slice Ao56 t269.length co56] 25 (0, 0)) (by (with_reducible repeat (first | refine blk_drewN ?_ _ | refine blk_drew ?_ | refine blk_alloc ?_ _)); exact BK274.out)) : gb302 ≠ gb274)); have n16_ := Aside0.mk ((by rw [hg]; exact Nat.ne_of_lt (blk_lt (g := gb287) (o := .cells #[.int .i64 t279, .int .u64 t280, .int .u64 t281, .slice Ao64 t282.length co64] 25 (0, 0)) (by (with_reducible repeat (first | refine blk_drewN ?_ _ | refine blk_drew ?_ | refine blk_alloc ?_ _)); exact BK287.out)) : gb287 ≠ gb302)); have n17_ := Aside0.mk ((by rw [hg]; exact Nat.ne_of_gt (blk_lt (g := gb287) (o := .cells #[.int .i64 t279, .int .u64 t280, .int .u64 t281, .slice Ao64 t282.length co64] 25 (0, 0)) (by (with_reducible repeat (first | refine blk_drewN ?_ _ | refine blk_drew ?_ | refine blk_alloc ?_ _)); exact BK287.out)) : gb302 ≠ gb287)); clear HO_13; clear HO_275003; clear HO_288003; clear HO291; clear HO299; clear BK249; clear BK274; clear BK287; clear HB; have HO_13 := n0_; have HO_275003 := n1_; have HO_288003 := n2_; have HO291 := n3_; have HO299 := n4_; have BK249 := n5_; have BK274 := n6_; have BK287 := n7_; have HB := n8_; have BK302 := n9_; have GW302 := n10_; have GE302 := n11_; have NB249_302 := n12_; have NB302_249 := n13_; have NB274_302 := n14_; have NB302_274 := n15_; have NB287_302 := n16_; have NB302_287 := n17_; clear n0_ n1_ n2_ n3_ n4_ n5_ n6_ n7_ n8_ n9_ n10_ n11_ n12_ n13_ n14_ n15_ n16_ n17_; clear hb hbox hg; have hnb131 := NB302_249.out; have hnc131 := NB249_302.out; have hnb132 := NB302_274.out; have hnc132 := NB274_302.out; have hnb133 := NB302_287.out; have hnc133 := NB287_302.out; have hcz134_0 : w130.cell? ⟨gb302, 0, none⟩ = some (.int .i64 0) := (blk_cell BK302.out 0).trans rfl; have hcz134_1 : w130.cell? ⟨gb302, 1, none⟩ = some (.int .u64 0) := (blk_cell BK302.out 1).trans rfl; have hcz134_2 : w130.cell? ⟨gb302, 2, none⟩ = some (.int .u64 0) := (blk_cell BK302.out 2).trans rfl; have hcz134_3 : w130.cell? ⟨gb302, 3, none⟩ = some (.slice none 0 0) := (blk_cell BK302.out 3).trans rfl; have hfz134_0 := blk_frozen BK302.out 0; have hfz134_1 := blk_frozen BK302.out 1; have hfz134_2 := blk_frozen BK302.out 2; have hfz134_3 := blk_frozen BK302.out 3; obtain ⟨Ao135, co135, eo135⟩ := Kd.R_slice HO299.out; subst eo135) | ((with_reducible refine gate_callee (f := 10) rfl ?_); refine goesL_ (some 144) rfl rfl Try.func10 (by kernel_rfl) rfl #[] rfl (by (try simp only [List.map_toArray, List.map_cons, List.map_nil]); first | done | rfl | (simp only [List.length_drop, List.length_take]; rfl)) ?_; (with_reducible refine (tiklaw15_first.calls kj45  t303 _ A124.out).mono ?_); rintro e w136 ⟨rfl, hb⟩; refine ⟨_, rfl, ?_⟩; have n0_ := Aside0.mk (Kd.R_below (by (with_reducible repeat (first | apply Kd.R_alloc | apply Kd.R_drewN | apply Kd.R_drew)); exact (Kd.R_mono (Kd.R_far (p := ⟨gb302, 3, none⟩) (Kd.R_far (p := ⟨gb302, 2, none⟩) (Kd.R_far (p := ⟨gb302, 1, none⟩) (Kd.R_far (p := ⟨gb302, 0, none⟩) (Kd.R_types HO_13.out BK302.out (by decide)) (fun _ hk => hk.2) (.int .i64 t294)) (fun _ hk => hk.2) (.int .u64 t295)) (fun _ hk => hk.2) (.int .u64 t296)) (fun _ hk => hk.2) (.slice Ao135 t297.length co135)) (fun _ h_ => h_.1))) hb); have n1_ := Aside0.mk (Kd.R_below (by (with_reducible repeat (first | apply Kd.R_alloc | apply Kd.R_drewN | apply Kd.R_drew)); exact (Kd.R_mono (Kd.R_far (p := ⟨gb302, 3, none⟩) (Kd.R_far (p := ⟨gb302, 2, none⟩) (Kd.R_far (p := ⟨gb302, 1, none⟩) (Kd.R_far (p := ⟨gb302, 0, none⟩) (Kd.R_types HO_275003.out BK302.out (by decide)) (fun _ hk => hk.2) (.int .i64 t294)) (fun _ hk => hk.2) (.int .u64 t295)) (fun _ hk => hk.2) (.int .u64 t296)) (fun _ hk => hk.2) (.slice Ao135 t297.length co135)) (fun _ h_ => h_.1))) hb); have n2_ := Aside0.mk (Kd.R_below (by (with_reducible repeat (first | apply Kd.R_alloc | apply Kd.R_drewN | apply Kd.R_drew)); exact (Kd.R_mono (Kd.R_far (p := ⟨gb302, 3, none⟩) (Kd.R_far (p := ⟨gb302, 2, none⟩) (Kd.R_far (p := ⟨gb302, 1, none⟩) (Kd.R_far (p := ⟨gb302, 0, none⟩) (Kd.R_types HO_288003.out BK302.out (by decide)) (fun _ hk => hk.2) (.int .i64 t294)) (fun _ hk => hk.2) (.int .u64 t295)) (fun _ hk => hk.2) (.int .u64 t296)) (fun _ hk => hk.2) (.slice Ao135 t297.length co135)) (fun _ h_ => h_.1))) hb); have n3_ := Aside0.mk (Kd.R_below (by (with_reducible repeat (first | apply Kd.R_alloc | apply Kd.R_drewN | apply Kd.R_drew)); exact (Kd.R_mono (Kd.R_far (p := ⟨gb302, 3, none⟩) (Kd.R_far (p := ⟨gb302, 2, none⟩) (Kd.R_far (p := ⟨gb302, 1, none⟩) (Kd.R_far (p := ⟨gb302, 0, none⟩) (Kd.R_types HO291.out BK302.out (by decide)) (fun _ hk => hk.2) (.int .i64 t294)) (fun _ hk => hk.2) (.int .u64 t295)) (fun _ hk => hk.2) (.int .u64 t296)) (fun _ hk => hk.2) (.slice Ao135 t297.length co135)) (fun _ h_ => h_.1))) hb); have n4_ := Aside0.mk (Kd.R_below (by (with_reducible repeat (first | apply Kd.R_alloc | apply Kd.R_drewN | apply Kd.R_drew)); exact (Kd.R_mono (Kd.R_far (p := ⟨gb302, 3, none⟩) (Kd.R_far (p := ⟨gb302, 2, none⟩) (Kd.R_far (p := ⟨gb302, 1, none⟩) (Kd.R_far (p := ⟨gb302, 0, none⟩) (Kd.R_types HO299.out BK302.out (by decide)) (fun _ hk => hk.2) (.int .i64 t294)) (fun _ hk => hk.2) (.int .u64 t295)) (fun _ hk => hk.2) (.int .u64 t296)) (fun _ hk => hk.2) (.slice Ao135 t297.length co135)) (fun _ h_ => h_.1))) hb); have n5_ := Aside0.mk (blk_below (g := gb249) (o := .cells #[.int .i64 a0_0, .int .u64 a0_1, .int .u64 a0_2, .slice A0_3 l0_3.length c0_3] 25 (0, 0)) (by (with_reducible repeat (first | refine blk_drewN ?_ _ | refine blk_drew ?_ | refine blk_alloc ?_ _)); refine blk_far ?_ NB249_302.out _; (with_reducible repeat (first | refine blk_drewN ?_ _ | refine blk_drew ?_ | refine blk_alloc ?_ _)); refine blk_far ?_ NB249_302.out _; (with_reducible repeat (first | refine blk_drewN ?_ _ | refine blk_drew ?_ | refine blk_alloc ?_ _)); refine blk_far ?_ NB249_302.out _; (with_reducible repeat (first | refine blk_drewN ?_ _ | refine blk_drew ?_ | refine blk_alloc ?_ _)); refine blk_far ?_ NB249_302.out _; (with_reducible repeat (first | refine blk_drewN ?_ _ | refine blk_drew ?_ | refine blk_alloc ?_ _)); exact BK249.out) hb); have n6_ := Aside0.mk (blk_below (g := gb274) (o := .cells #[.int .i64 t266, .int .u64 t267, .int .u64 t268, .slice Ao56 t269.length co56] 25 (0, 0)) (by (with_reducible repeat (first | refine blk_drewN ?_ _ | refine blk_drew ?_ | refine blk_alloc ?_ _)); refine blk_far ?_ NB274_302.out _; (with_reducible repeat (first | refine blk_drewN ?_ _ | refine blk_drew ?_ | refine blk_alloc ?_ _)); refine blk_far ?_ NB274_302.out _; (with_reducible repeat (first | refine blk_drewN ?_ _ | refine blk_drew ?_ | refine blk_alloc ?_ _)); refine blk_far ?_ NB274_302.out _; (with_reducible repeat (first | refine blk_drewN ?_ _ | refine blk_drew ?_ | refine blk_alloc ?_ _)); refine blk_far ?_ NB274_302.out _; (with_reducible repeat (first | refine blk_drewN ?_ _ | refine blk_drew ?_ | refine blk_alloc ?_ _)); exact BK274.out) hb); have n7_ := Aside0.mk (blk_below (g := gb287) (o := .cells #[.int .i64 t279, .int .u64 t280, .int .u64 t281, .slice Ao64 t282.length co64] 25 (0, 0)) (by (with_reducible repeat (first | refine blk_drewN ?_ _ | refine blk_drew ?_ | refine blk_alloc ?_ _)); refine blk_far ?_ NB287_302.out _; (with_reducible repeat (first | refine blk_drewN ?_ _ | refine blk_drew ?_ | refine blk_alloc ?_ _)); refine blk_far ?_ NB287_302.out _; (with_reducible repeat (first | refine blk_drewN ?_ _ | refine blk_drew ?_ | refine blk_alloc ?_ _)); refine blk_far ?_ NB287_302.out _; (with_reducible repeat (first | refine blk_drewN ?_ _ | refine blk_drew ?_ | refine blk_alloc ?_ _)); refine blk_far ?_ NB287_302.out _; (with_reducible repeat (first | refine blk_drewN ?_ _ | refine blk_drew ?_ | refine blk_alloc ?_ _)); exact BK287.out) hb); have n8_ := Aside0.mk (blk_below (g := gb302) (o := .cells #[.int .i64 t294, .int .u64 t295, .int .u64 t296, .slice Ao135 t297.length co135] 25 (0, 0)) (by (with_reducible repeat (first | refine blk_drewN ?_ _ | refine blk_drew ?_ | refine blk_alloc ?_ _)); refine blk_put (cs := #[.int .i64 t294, .int .u64 t295, .int .u64 t296, .slice none 0 0]) ?_ 3 _ rfl; (with_reducible repeat (first | refine blk_drewN ?_ _ | refine blk_drew ?_ | refine blk_alloc ?_ _)); refine blk_put (cs := #[.int .i64 t294, .int .u64 t295, .int .u64 0, .slice none 0 0]) ?_ 2 _ rfl; (with_reducible repeat (first | refine blk_drewN ?_ _ | refine blk_drew ?_ | refine blk_alloc ?_ _)); refine blk_put (cs := #[.int .i64 t294, .int .u64 0, .int .u64 0, .slice none 0 0]) ?_ 1 _ rfl; (with_reducible repeat (first | refine blk_drewN ?_ _ | refine blk_drew ?_ | refine blk_alloc ?_ _)); refine blk_put (cs := #[.int .i64 0, .int .u64 0, .int .u64 0, .slice none 0 0]) ?_ 0 _ rfl; (with_reducible repeat (first | refine blk_drewN ?_ _ | refine blk_drew ?_ | refine blk_alloc ?_ _)); exact BK302.out) hb); have n9_ := Aside0.mk (below_step (by repeat (first | (with_reducible first | exact HB.out | apply below_alloc | apply pw_below_drewN | apply below_drew1 | refine below_set ?_ GE249.out | refine below_set ?_ GE274.out | refine below_set ?_ GE287.out | refine below_set ?_ GE302.out) | exact HB.out)) hb); clear HO_13; clear HO_275003; clear HO_288003; clear HO291; clear HO299; clear BK249; clear BK274; clear BK287; clear BK302; clear HB; have HO_13 := n0_; have HO_275003 := n1_; have HO_288003 := n2_; have HO291 := n3_; have HO299 := n4_; have BK249 := n5_; have BK274 := n6_; have BK287 := n7_; have BK302 := n8_; have HB := n9_; clear n0_ n1_ n2_ n3_ n4_ n5_ n6_ n7_ n8_ n9_; (try clear hb); (try clear hb2); (try clear hk); (try clear hi)))
                                        go_ret
                                        exact ⟨by first | rfl | (simp [errW_none, errW_some] <;> rfl) | (simp only [← hji42, ← hji90]; first | rfl | (simp [errW_none, errW_some] <;> rfl)) | (simp [*, errW_none, errW_some] <;> rfl), by repeat (first | (with_reducible first | exact HB.out | apply below_alloc | apply pw_below_drewN | apply below_drew1 | refine below_set ?_ GE249.out | refine below_set ?_ GE274.out | refine below_set ?_ GE287.out | refine below_set ?_ GE302.out) | exact HB.out)⟩
                                    · rw [if_neg c92] at H
                                      exact absurd H (by simp)
                                  · rw [if_neg c91] at H
                                    exact absurd H (by simp)
                        · rw [if_neg c44] at H
                          exact absurd H (by simp)
                      · rw [if_neg c43] at H
                        exact absurd H (by simp)
                  · rw [if_neg c39] at H
                    exact absurd H (by simp)
                · rw [if_neg c38] at H
                  exact absurd H (by simp)
  · replace c8 := Bool.eq_false_iff.mpr c8
    subst c8
    have H1 : (some false) = some r := by rw [if_neg (show ¬ (false = true) by decide)] at H; exact H
    clear H
    have H := H1
    clear H1
    exact absurd ((Option.some.inj H).trans hr_.out) (by simp)
end Go.Proofs.Ytdklanenmihpdaa.PL
