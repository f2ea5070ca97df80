/- Texts of this claim, put together. -/
import Derived.Test.YtlgfmmkabnbllaaDoorMSBa
import Derived.Test.YtlgfmmkabnbllaaDoorMSBb
import Derived.Test.YtlgfmmkabnbllaaDoorMSBc
import Derived.Test.YtlgfmmkabnbllaaDoorMSBe
set_option linter.unusedVariables false
set_option linter.unusedSimpArgs false
namespace Go.Proofs.YtlgfmmkabnbllaaDoor.PS
open Go.RowKit Go.Proofs.YtlgfmmkabnbllaaDoorW.PrintWords Go.Proofs.YtlgfmmkabnbllaaDoorW.PrintLast Go.Proofs.YtlgfmmkabnbllaaDoorW.PrintMore
attribute [local go_sem] max2_int min2_int max_two min_two max_three min_three max_four min_four
open Go.Proofs.YtlgfmmkabnbllaaDoor.Hand
open Go.Proofs.YtlgfmmkabnbllaaDoor.PA
set_option linter.unusedVariables false
set_option linter.unusedSimpArgs false
mutual
def tiklaw16_SegBack.j0 : Nat → List (S88) → Int → Bool → Int → Int → Option (Bool)
 | 0, _, _, _, _, _ => none
 | k + 1, x1, x2, x28, x475000, x475001 => if x28 = true then ((tiklaw16_first.f k).bind fun t476 => (some t476)) else (tiklaw16_SegBack.l0 k x1 x2 0 x475000 x475001)
def tiklaw16_SegBack.l0 : Nat → List (S88) → Int → Int → Int → Int → Option (Bool)
 | 0, _, _, _, _, _ => none
 | k + 1, x1, x2, x7, x475000, x475001 => if x7 < (x1.length : Int) then (if 0 ≤ x7 then (if (((rd_T88 x1 x7).f3).length : Int) > 300 then ((tiklaw16_first.f k).bind fun t478 => (some t478)) else (tiklaw16_SegBack.l0 k x1 x2 (wrap64 (x7 + 1)) x475000 x475001)) else (none)) else ((tiklaw16_file.f k x475000 x475001 x1).bind fun bt479 => (if bt479.2 = true then ((seg_Read.f k bt479.1).bind fun bt484 => ((seg_Name.f x475000).bind fun t492 => ((seg_Number.f k t492).bind fun bt493 => (if bt484.2.2.2.2 = 0 then (if bt484.1 = x475000 then (if bt484.2.1 = x475001 then (if bt484.2.2.2.1 = (bt479.1.length : Int) then (if (bt484.2.2.1.length : Int) = (x1.length : Int) then (if bt493.2 = true then (tiklaw16_SegBack.j2 k x1 x2 bt479.1 (bt493.1 != x475000) bt484.1 bt484.2.1 bt484.2.2.1 bt484.2.2.2.1) else (tiklaw16_SegBack.j2 k x1 x2 bt479.1 true bt484.1 bt484.2.1 bt484.2.2.1 bt484.2.2.2.1)) else (tiklaw16_SegBack.j2 k x1 x2 bt479.1 true bt484.1 bt484.2.1 bt484.2.2.1 bt484.2.2.2.1)) else (tiklaw16_SegBack.j2 k x1 x2 bt479.1 true bt484.1 bt484.2.1 bt484.2.2.1 bt484.2.2.2.1)) else (tiklaw16_SegBack.j2 k x1 x2 bt479.1 true bt484.1 bt484.2.1 bt484.2.2.1 bt484.2.2.2.1)) else (tiklaw16_SegBack.j2 k x1 x2 bt479.1 true bt484.1 bt484.2.1 bt484.2.2.1 bt484.2.2.2.1)) else (tiklaw16_SegBack.j2 k x1 x2 bt479.1 true bt484.1 bt484.2.1 bt484.2.2.1 bt484.2.2.2.1))))) else ((tiklaw16_first.f k).bind fun t483 => (some t483))))
def tiklaw16_SegBack.j2 : Nat → List (S88) → Int → List Int → Bool → Int → Int → List (S93) → Int → Option (Bool)
 | 0, _, _, _, _, _, _, _, _ => none
 | k + 1, x1, x2, x8, x107, x492000, x492001, x492002, x492003 => if x107 = true then (some false) else (tiklaw16_SegBack.l1 k x1 x2 x8 20 0 x492000 x492001 x492002 x492003)
def tiklaw16_SegBack.l1 : Nat → List (S88) → Int → List Int → Int → Int → Int → Int → List (S93) → Int → Option (Bool)
 | 0, _, _, _, _, _, _, _, _, _ => none
 | k + 1, x1, x2, x8, x14, x15, x492000, x492001, x492002, x492003 => if x15 < (x1.length : Int) then (if 0 ≤ x15 then (if x15 < (x492002.length : Int) then ((rec_Same.f ((rd_T93 x492002 x15).f0.f0) ((rd_T93 x492002 x15).f0.f1) ((rd_T93 x492002 x15).f0.f2) ((rd_T93 x492002 x15).f0.f3) ((rd_T88 x1 x15).f0) ((rd_T88 x1 x15).f1) ((rd_T88 x1 x15).f2) ((rd_T88 x1 x15).f3)).bind fun t497 => (if t497 = true then (if ((rd_T93 x492002 x15).f1) = x14 then (if ((rd_T93 x492002 x15).f2) ≤ x14 then (some false) else (tiklaw16_SegBack.l1 k x1 x2 x8 ((rd_T93 x492002 x15).f2) (wrap64 (x15 + 1)) x492000 x492001 x492002 x492003)) else (some false)) else (some false))) else (none)) else (none)) else (if (wrap64 ((x8.length : Int) + 1)) = 0 then (none) else (if 0 ≤ (Int.tmod x2 (wrap64 ((x8.length : Int) + 1))) then (if (Int.tmod x2 (wrap64 ((x8.length : Int) + 1))) ≤ (x8.length : Int) then ((seg_Read.f k (x8.take ((Int.tmod x2 (wrap64 ((x8.length : Int) + 1))) : Int).toNat)).bind fun bt505 => (if (Int.tmod x2 (wrap64 ((x8.length : Int) + 1))) < 20 then ((tiklaw16_first.f k).bind fun t513 => (if t513 = true then (if bt505.2.2.2.2 = 2 then (some ((bt505.2.2.1.length : Int) == 0)) else (some false)) else (some false))) else (if bt505.2.2.2.2 = 0 then (if bt505.2.2.2.1 > (Int.tmod x2 (wrap64 ((x8.length : Int) + 1))) then (tiklaw16_SegBack.j4 k x1 (Int.tmod x2 (wrap64 ((x8.length : Int) + 1))) true x492000 x492001 x492002 x492003 bt505.1 bt505.2.1 bt505.2.2.1 bt505.2.2.2.1) else (tiklaw16_SegBack.j4 k x1 (Int.tmod x2 (wrap64 ((x8.length : Int) + 1))) (decide ((bt505.2.2.1.length : Int) > (x1.length : Int))) x492000 x492001 x492002 x492003 bt505.1 bt505.2.1 bt505.2.2.1 bt505.2.2.2.1)) else (tiklaw16_SegBack.j4 k x1 (Int.tmod x2 (wrap64 ((x8.length : Int) + 1))) true x492000 x492001 x492002 x492003 bt505.1 bt505.2.1 bt505.2.2.1 bt505.2.2.2.1)))) else (none)) else (none)))
def tiklaw16_SegBack.j4 : Nat → List (S88) → Int → Bool → Int → Int → List (S93) → Int → Int → Int → List (S93) → Int → Option (Bool)
 | 0, _, _, _, _, _, _, _, _, _, _, _ => none
 | k + 1, x1, x16, x192, x492000, x492001, x492002, x492003, x513000, x513001, x513002, x513003 => if x192 = true then (some false) else (tiklaw16_SegBack.l2 k x1 x16 0 x492000 x492001 x492002 x492003 x513000 x513001 x513002 x513003)
def tiklaw16_SegBack.l2 : Nat → List (S88) → Int → Int → Int → Int → List (S93) → Int → Int → Int → List (S93) → Int → Option (Bool)
 | 0, _, _, _, _, _, _, _, _, _, _, _ => none
 | k + 1, x1, x16, x19, x492000, x492001, x492002, x492003, x513000, x513001, x513002, x513003 => if x19 < (x1.length : Int) then (if 0 ≤ x19 then (if x19 < (x492002.length : Int) then (if ((decide (((rd_T93 x492002 x19).f2) ≤ x16)) != (decide (x19 < (x513002.length : Int)))) = true then (some false) else (tiklaw16_SegBack.l2 k x1 x16 (wrap64 (x19 + 1)) x492000 x492001 x492002 x492003 x513000 x513001 x513002 x513003)) else (none)) else (none)) else ((tiklaw16_first.f k).bind fun t515 => (if t515 = true then (if (x513002.length : Int) = 0 then (if x513003 = 20 then (some true) else (if (x513002.length : Int) > 0 then (if 0 ≤ (wrap64 ((x513002.length : Int) - 1)) then (if (wrap64 ((x513002.length : Int) - 1)) < (x492002.length : Int) then (some (x513003 == ((rd_T93 x492002 (wrap64 ((x513002.length : Int) - 1))).f2))) else (none)) else (none)) else (some false))) else (if (x513002.length : Int) > 0 then (if 0 ≤ (wrap64 ((x513002.length : Int) - 1)) then (if (wrap64 ((x513002.length : Int) - 1)) < (x492002.length : Int) then (some (x513003 == ((rd_T93 x492002 (wrap64 ((x513002.length : Int) - 1))).f2))) else (none)) else (none)) else (some false))) else (some false)))
end
def tiklaw16_SegBack.f (k : Nat) (a0_0 : Int) (a0_1 : Int) (l1 : List (S88)) (a2 : Int) : Option (Bool) := (tiklaw16_first.f k).bind fun t475 => (if t475 = true then (if (l1.length : Int) > 30 then (tiklaw16_SegBack.j0 k l1 a2 true a0_0 a0_1) else (tiklaw16_SegBack.j0 k l1 a2 (decide (a2 < 0)) a0_0 a0_1)) else (some false))
def tiklaw16_SegBack.T21 : Bool × List (List Nat × List Nat) := (true, [([], []), ([0], [0]), ([], []), ([1, 2], [1, 2]), ([3], [3]), ([4], [4]), ([], []), ([], []), ([6, 7], [6, 7]), ([8], [8]), ([5, 9], [5, 9]), ([10], [10]), ([11, 10], [11]), ([12], [12]), ([13, 12], [12, 13]), ([12], [12]), ([14, 15, 12], [12, 14, 15]), ([16, 12], [12, 16]), ([17, 12], [12, 17]), ([12], [12]), ([18, 19, 12], [12, 18, 19]), ([12, 20], [12, 20]), ([21, 12], [21]), ([22], [22]), ([23, 22], [22, 23]), ([22], [22]), ([24, 25, 22], [22, 24, 25]), ([26, 22], [22, 26]), ([27, 22], [22, 27]), ([22], [22]), ([28, 29, 22], [22, 28, 29]), ([22, 30], [22, 30])])
def tiklaw16_SegBack.B21 : List Nat := [0, 1, 0, 7, 15, 31, 0, 0, 192, 448, 1023, 2047, 4095, 8191, 16383, 8191, 65535, 131071, 262143, 8191, 1048575, 2097151, 4194303, 8388607, 16777215, 8388607, 67108863, 134217727, 268435455, 8388607, 1073741823, 2147483647]
theorem tiklaw16_SegBack.tab21 : rtab .any (opsOf Tryd.f10 21) = tiklaw16_SegBack.T21 := by kernel_rfl
theorem tiklaw16_SegBack.bits21 : waitsOk tiklaw16_SegBack.T21.2 tiklaw16_SegBack.B21 = true := by kernel_rfl
def tiklaw16_SegBack.T33 : Bool × List (List Nat × List Nat) := (true, [([], []), ([0], [0]), ([], []), ([1, 2], [1, 2]), ([3], [3]), ([4], [4]), ([], []), ([5, 6], [5, 6]), ([], []), ([], []), ([9], [9]), ([10], [10]), ([8, 11], [8, 11]), ([7, 12], [7, 12])])
def tiklaw16_SegBack.B33 : List Nat := [0, 1, 0, 7, 15, 31, 0, 127, 0, 0, 512, 1536, 3840, 8191]
theorem tiklaw16_SegBack.tab33 : rtab .any (opsOf Tryd.f10 33) = tiklaw16_SegBack.T33 := by kernel_rfl
theorem tiklaw16_SegBack.bits33 : waitsOk tiklaw16_SegBack.T33.2 tiklaw16_SegBack.B33 = true := by kernel_rfl
def tiklaw16_SegBack.T35 : Bool × List (List Nat × List Nat) := (true, [([], []), ([0, 0], [0]), ([1], [1]), ([2, 1], [1, 2]), ([3, 1], [1, 3]), ([4, 1], [1, 4]), ([5, 1, 1], [1, 5]), ([6], [6]), ([7, 6], [6, 7]), ([8, 6], [6, 8]), ([6, 9, 1], [1, 6, 9]), ([10, 6, 1], [1, 10]), ([11], [11]), ([12, 11], [11, 12]), ([13, 11], [11, 13]), ([14, 11], [11, 14]), ([15, 11, 11], [11, 15]), ([16], [16]), ([17, 16], [16, 17]), ([16], [16]), ([19, 16], [16, 19]), ([16], [16]), ([21, 16], [16, 21]), ([22, 16], [16, 22]), ([23, 16], [16, 23]), ([20, 24, 16], [16, 20, 24]), ([25, 16], [16, 25]), ([26, 16], [16, 26]), ([18, 27, 16], [16, 18, 27]), ([16, 28, 11], [11, 16, 28]), ([11, 29, 1], [1, 11, 29]), ([1, 30], [1, 30]), ([31, 16, 0, 1, 2, 3, 4, 5, 6, 7, 8, 9, 10, 11, 12, 13, 14, 15, 16, 17, 18, 19, 20, 21, 22, 23, 24, 25, 26, 27, 28, 29, 30, 31], [31])])
def tiklaw16_SegBack.B35 : List Nat := [0, 1, 3, 7, 15, 31, 63, 127, 255, 511, 1023, 2047, 4095, 8191, 16383, 32767, 65535, 131071, 262143, 131071, 655359, 131071, 2228223, 6422527, 14811135, 33161215, 66715647, 133824511, 268435455, 536870911, 1073741823, 2147483647, 4294967295]
theorem tiklaw16_SegBack.tab35 : rtab .any (opsOf Tryd.f10 35) = tiklaw16_SegBack.T35 := by kernel_rfl
theorem tiklaw16_SegBack.bits35 : waitsOk tiklaw16_SegBack.T35.2 tiklaw16_SegBack.B35 = true := by kernel_rfl
set_option maxHeartbeats 8000000 in
set_option maxRecDepth 100000 in
theorem tiklaw16_SegBack.calls (k : Nat) (a0_0 : Int) (a0_1 : Int) (A1 : Option Addr) (c1 : Nat) (l1 : List (S88)) (a2 : Int) (r : Bool) (w : World) (hr1 : Kd.C k88 w A1 l1.length l1) (hc1 : l1.length ≤ c1) (hT : TabI w) (hr_ : Aside0 (r = true)) (h : tiklaw16_SegBack.f k a0_0 a0_1 l1 a2 = some r) :
  Calls Tryd.prog 10 #[.agg #[.int .i64 a0_0, .int .u64 a0_1], .slice A1 l1.length c1, .int .i64 a2] w fun e w' => e = .returned (.bool r) ∧ Below w.heap.size w w' := by
 have HT := Aside0.mk hT; clear hT; have hu63 := Tryd.underlying63; have hu72 := Tryd.underlying72; have hu88 := Tryd.underlying88; have HR1 := Aside0.mk hr1; have HC1 := Aside0.mk hc1; clear hr1 hc1; have HB := Aside0.mk (Below.refl w.heap.size w)
 have H : ((tiklaw16_first.f k).bind fun t475 => (if t475 = true then (if (l1.length : Int) > 30 then (tiklaw16_SegBack.j0 k l1 a2 true a0_0 a0_1) else (tiklaw16_SegBack.j0 k l1 a2 (decide (a2 < 0)) a0_0 a0_1)) else (some false))) = some r := h
 clear h
 replace H := Option.bind_eq_some_iff.mp H
 obtain ⟨t475, A40, H⟩ := H
 replace H : (if t475 = true then (if (l1.length : Int) > 30 then (tiklaw16_SegBack.j0 k l1 a2 true a0_0 a0_1) else (tiklaw16_SegBack.j0 k l1 a2 (decide (a2 < 0)) a0_0 a0_1)) else (some false)) = some r := H
 have A4 := Aside0.mk A40; clear A40
 by_cases c5 : t475 = true
 rotate_left
 ·replace c5 := Bool.eq_false_iff.mpr c5
  subst c5
  have H1 : (some false) = some r := by rw [if_neg (show ¬ (false = true) by decide)] at H; exact H
  clear H; have H := H1; clear H1
  exact absurd ((Option.some.inj H).trans hr_.out) (by simp)
 subst c5
 have H1 : (if (l1.length : Int) > 30 then (tiklaw16_SegBack.j0 k l1 a2 true a0_0 a0_1) else (tiklaw16_SegBack.j0 k l1 a2 (decide (a2 < 0)) a0_0 a0_1)) = some r := by rw [if_pos rfl] at H; exact H
 clear H; have H := H1; clear H1; have HC6 := Aside0.mk H; clear H
 go_enter Tryd.func10, Tryd.ntmps10
 go_upto_region 3 with (first | ((with_reducible refine gate_dst (N := 3) rfl ?_); (try (refine gate_guard (by rfl) ?_; dsimp only)); refine box_event ?hg (N := 3) ?hd (cs := #[.int .i64 a0_0, .int .u64 a0_1]) (t := 63) ?hr ?_; (case hd => rfl); (case hg => rfl); (case hr => first | (go_simp; done) | (go_simp; rfl)); intro gb474 hg w7 hbox hb; have n0_ := Aside0.mk (below_step (by repeat (first | (with_reducible first | exact HB.out | apply below_alloc | apply pw_below_drewN | apply below_drew1) | exact HB.out)) hb); have n1_ := Aside0.mk (hbox); have n2_ := Aside0.mk ((by rw [hg]; exact (below_size (by repeat (first | (with_reducible first | exact HB.out | apply below_alloc | apply pw_below_drewN | apply below_drew1) | exact HB.out))) : w.heap.size ≤ gb474)); have n3_ := Aside0.mk ((by rw [hg]; exact (below_size (by repeat (first | (with_reducible first | exact HB.out | apply below_alloc | apply pw_below_drewN | apply below_drew1) | exact HB.out))) : w.heap.size ≤ gb474)); clear HB; have HB := n0_; have BK474 := n1_; have GW474 := n2_; have GE474 := n3_; clear n0_ n1_ n2_ n3_; clear hb hbox hg) | ((with_reducible refine gate_callee (f := 29) rfl ?_); refine goesL_ (some 20) rfl rfl Tryd.func29 (by kernel_rfl) rfl #[] rfl (by (try simp only [List.map_toArray, List.map_cons, List.map_nil]); first | done | rfl | (simp only [List.length_drop, List.length_take]; rfl)) ?_; (with_reducible refine (tiklaw16_first.calls k  true _ ?side1 A4.out).mono ?_); (case side1 => first | (with_reducible exact HT.out) | exact tabAt HT.out (by repeat (first | (with_reducible first | exact HB.out | apply below_alloc | apply pw_below_drewN | apply below_drew1 | refine below_set ?_ GE474.out) | exact HB.out))); rintro e w8 ⟨rfl, hb⟩; refine ⟨_, rfl, ?_⟩; have n0_ := Aside0.mk (blk_below (g := gb474) (o := .cells #[.int .i64 a0_0, .int .u64 a0_1] 63 (0, 0)) (by (with_reducible repeat (first | refine blk_drewN ?_ _ | refine blk_drew ?_ | refine blk_alloc ?_ _)); exact BK474.out) hb); have n1_ := Aside0.mk (below_step (by repeat (first | (with_reducible first | exact HB.out | apply below_alloc | apply pw_below_drewN | apply below_drew1 | refine below_set ?_ GE474.out) | exact HB.out)) hb); clear BK474; clear HB; have BK474 := n0_; have HB := n1_; clear n0_ n1_; (try clear hb); (try clear hb2); (try clear hk); (try clear hi)))
 (try simp only [Act.put, List.setIfInBounds_toArray, List.set_cons_zero, List.set_cons_succ])
 go_cut [28] (fun v28 wc => ∃ (kq : Nat) (x28_5 : Bool), v28 = .bool x28_5 ∧ Aside0 (tiklaw16_SegBack.j0 kq l1 a2 x28_5 a0_0 a0_1 = some r) ∧ Aside0 (kq ≤ k) ∧ Aside0 (wc.heap[gb474]? = some (.cells #[.int .i64 a0_0, .int .u64 a0_1] 63 (0, 0))) ∧ Aside0 (Below w.heap.size w wc))
 case first =>
  have H := HC6.out; clear HC6
  by_cases c9 : (l1.length : Int) > 30
  ·rw [if_pos c9] at H
   have c9b0 : decide (30 < (l1.length : Int)) = true := decide_eq_true c9
   have c9b1 : decide (30 < l1.length) = true := decide_eq_true (by omega)
   clear c9
   (first | rw [c9b0] | (simp only [i64_w, i32_w]; rw [c9b0]) | skip)
   have H' := Aside0.mk H; clear H
   go_wp2
   go_meet
   case rel => exact ⟨_, (true), (by first | rfl | (simp; done) | (simp [*]; done)), H', ⟨by first | omega | exact Nat.le_refl _⟩, ⟨by (with_reducible repeat (first | refine blk_drewN ?_ _ | refine blk_drew ?_ | refine blk_alloc ?_ _)); exact BK474.out⟩, ⟨by repeat (first | (with_reducible first | exact HB.out | apply below_alloc | apply pw_below_drewN | apply below_drew1 | refine below_set ?_ GE474.out) | exact HB.out)⟩⟩
  rw [if_neg c9] at H
  have c9b0 : decide (30 < (l1.length : Int)) = false := decide_eq_false c9
  have c9b1 : decide (30 < l1.length) = false := decide_eq_false (by omega)
  clear c9
  (first | rw [c9b0] | (simp only [i64_w, i32_w]; rw [c9b0]) | skip)
  have H' := Aside0.mk H; clear H
  go_wp2
  go_meet
  case rel => exact ⟨_, (decide (a2 < 0)), (by first | rfl | (simp; done) | (simp [*]; done)), H', ⟨by first | omega | exact Nat.le_refl _⟩, ⟨by (with_reducible repeat (first | refine blk_drewN ?_ _ | refine blk_drew ?_ | refine blk_alloc ?_ _)); exact BK474.out⟩, ⟨by repeat (first | (with_reducible first | exact HB.out | apply below_alloc | apply pw_below_drewN | apply below_drew1 | refine below_set ?_ GE474.out) | exact HB.out)⟩⟩
 case rest =>
  as_aux_lemma =>
   clear HC6; (try clear c1); (try clear c2); (try clear p2); (try clear c5); (try clear c9); (try clear c9b0); (try clear c9b1); obtain ⟨kq, x28_5, rfl, HA, HJ5, BK474, HB⟩ := hcut
   cases kq with
   | zero => exact absurd HA.out (by simp [tiklaw16_SegBack.j0])
   | succ kj5 =>
    have H := HA.out; clear HA
    simp only [tiklaw16_SegBack.j0] at H
    by_cases c10 : x28_5 = true
    ·subst c10
     have H1 : ((tiklaw16_first.f kj5).bind fun t476 => (some t476)) = some r := by rw [if_pos rfl] at H; exact H
     clear H; have H := H1; clear H1
     replace H := Option.bind_eq_some_iff.mp H
     obtain ⟨t476, A110, H⟩ := H
     replace H : (some t476) = some r := H
     have A11 := Aside0.mk A110; clear A110
     obtain rfl := Option.some.inj H
     go_wp2_with (first | ((with_reducible refine gate_callee (f := 29) rfl ?_); refine goesL_ (some 29) rfl rfl Tryd.func29 (by kernel_rfl) rfl #[] rfl (by (try simp only [List.map_toArray, List.map_cons, List.map_nil]); first | done | rfl | (simp only [List.length_drop, List.length_take]; rfl)) ?_; (with_reducible refine (tiklaw16_first.calls kj5  t476 _ ?side1 A11.out).mono ?_); (case side1 => first | (with_reducible exact HT.out) | exact tabAt HT.out (by repeat (first | (with_reducible first | exact HB.out | apply below_alloc | apply pw_below_drewN | apply below_drew1 | refine below_set ?_ GE474.out) | exact HB.out))); rintro e w12 ⟨rfl, hb⟩; refine ⟨_, rfl, ?_⟩; have n0_ := Aside0.mk (blk_below (g := gb474) (o := .cells #[.int .i64 a0_0, .int .u64 a0_1] 63 (0, 0)) (by (with_reducible repeat (first | refine blk_drewN ?_ _ | refine blk_drew ?_ | refine blk_alloc ?_ _)); exact BK474.out) hb); have n1_ := Aside0.mk (below_step (by repeat (first | (with_reducible first | exact HB.out | apply below_alloc | apply pw_below_drewN | apply below_drew1 | refine below_set ?_ GE474.out) | exact HB.out)) hb); clear BK474; clear HB; have BK474 := n0_; have HB := n1_; clear n0_ n1_; (try clear hb); (try clear hb2); (try clear hk); (try clear hi)))
     go_ret
     exact ⟨by first | rfl | (simp [errW_none, errW_some] <;> rfl) | (simp [*, errW_none, errW_some] <;> rfl), by repeat (first | (with_reducible first | exact HB.out | apply below_alloc | apply pw_below_drewN | apply below_drew1 | refine below_set ?_ GE474.out) | exact HB.out)⟩
    replace c10 := Bool.eq_false_iff.mpr c10
    subst c10
    have H1 : (tiklaw16_SegBack.l0 kj5 l1 a2 0 a0_0 a0_1) = some r := by rw [if_neg (show ¬ (false = true) by decide)] at H; exact H
    clear H; have H := H1; clear H1; have H' := Aside0.mk H; clear H
    go_wp2
    go_loopg [7] kj5 (fun kq v7 w' => ∃ (x7_2 : Int), v7 = .int .i64 x7_2 ∧ Aside0 (tiklaw16_SegBack.l0 kq l1 a2 x7_2 a0_0 a0_1 = some r) ∧ Aside0 (kq ≤ kj5) ∧ Aside0 (w'.heap[gb474]? = some (.cells #[.int .i64 a0_0, .int .u64 a0_1] 63 (0, 0))) ∧ Aside0 (Below w.heap.size w w'))
    case atStart => exact ⟨(0), (by first | rfl | (simp; done) | (simp [*]; done)), H', ⟨Nat.le_refl _⟩, ⟨by (with_reducible repeat (first | refine blk_drewN ?_ _ | refine blk_drew ?_ | refine blk_alloc ?_ _)); exact BK474.out⟩, ⟨by repeat (first | (with_reducible first | exact HB.out | apply below_alloc | apply pw_below_drewN | apply below_drew1 | refine below_set ?_ GE474.out) | exact HB.out)⟩⟩
    case round =>
     as_aux_lemma =>
      clear H'
      (try clear c1); (try clear c2); (try clear p2); (try clear c5); (try clear c9); (try clear c9b0); (try clear c9b1); (try clear c10); (try clear p2); obtain ⟨x7_2, rfl, HA, HK2, BK474, HB⟩ := hrel
      cases gk with
      | zero => exact absurd HA.out (by simp [tiklaw16_SegBack.l0])
      | succ k2 =>
       have H := HA.out; clear HA
       simp only [tiklaw16_SegBack.l0] at H
       by_cases c13 : x7_2 < (l1.length : Int)
       ·rw [if_pos c13] at H
        have c13b0 : decide (x7_2 < (l1.length : Int)) = true := decide_eq_true c13
        clear c13
        by_cases c14 : 0 ≤ x7_2
        rotate_left
        ·rw [if_neg c14] at H
         exact absurd H (by simp)
        rw [if_pos c14] at H
        have c14b0 : decide (0 ≤ x7_2) = true := decide_eq_true c14
        clear c14
        by_cases c15 : (((rd_T88 l1 x7_2).f3).length : Int) > 300
        rotate_left
        ·rw [if_neg c15] at H
         have c15b0 : decide (300 < (((rd_T88 l1 x7_2).f3).length : Int)) = false := decide_eq_false c15
         have c15b1 : decide (300 < ((rd_T88 l1 x7_2).f3).length) = false := decide_eq_false (by omega)
         clear c15; have H' := Aside0.mk H; clear H
         have p477 : 0 ≤ (x7_2 : Int) := of_decide_eq_true (by first | (with_reducible assumption) | assumption)
         have q477 : x7_2 < (l1.length : Int) := of_decide_eq_true (by first | (with_reducible assumption) | assumption)
         obtain ⟨ad477, A477_3, c477_3, e477, hx477_0, hx477_1, hx477_2, hx477_3, hl477_3, hi477_3⟩ := at_T88 HR1.out x7_2 p477 q477
         cases e477
         replace hx477_0 := (HB.out.cell (World.block_lt_of_cell? w _ hx477_0)).trans hx477_0
         replace hx477_1 := (HB.out.cell (World.block_lt_of_cell? w _ hx477_1)).trans hx477_1
         replace hx477_2 := (HB.out.cell (World.block_lt_of_cell? w _ hx477_2)).trans hx477_2
         replace hx477_3 := (HB.out.cell (World.block_lt_of_cell? w _ hx477_3)).trans hx477_3
         have HR477_3 := Aside0.mk hi477_3; have HC477_3 := Aside0.mk hl477_3; clear hi477_3 hl477_3
         replace p477 := eq_true p477
         replace q477 := eq_true q477
         go_wp2
         go_roundg k2
         case measure => have := HJ5.out; have := HK2.out; omega
         case rel => exact ⟨(wrap64 (x7_2 + 1)), (by first | rfl | (simp; done) | (simp [*]; done)), H', ⟨by have := HJ5.out; have := HK2.out; omega⟩, ⟨by (with_reducible repeat (first | refine blk_drewN ?_ _ | refine blk_drew ?_ | refine blk_alloc ?_ _)); exact BK474.out⟩, ⟨by repeat (first | (with_reducible first | exact HB.out | apply below_alloc | apply pw_below_drewN | apply below_drew1 | refine below_set ?_ GE474.out) | exact HB.out)⟩⟩
        rw [if_pos c15] at H
        have c15b0 : decide (300 < (((rd_T88 l1 x7_2).f3).length : Int)) = true := decide_eq_true c15
        have c15b1 : decide (300 < ((rd_T88 l1 x7_2).f3).length) = true := decide_eq_true (by omega)
        clear c15
        replace H := Option.bind_eq_some_iff.mp H
        obtain ⟨t478, A160, H⟩ := H
        replace H : (some t478) = some r := H
        have A16 := Aside0.mk A160; clear A160
        obtain rfl := Option.some.inj H
        have p477 : 0 ≤ (x7_2 : Int) := of_decide_eq_true (by first | (with_reducible assumption) | assumption)
        have q477 : x7_2 < (l1.length : Int) := of_decide_eq_true (by first | (with_reducible assumption) | assumption)
        obtain ⟨ad477, A477_3, c477_3, e477, hx477_0, hx477_1, hx477_2, hx477_3, hl477_3, hi477_3⟩ := at_T88 HR1.out x7_2 p477 q477
        cases e477
        replace hx477_0 := (HB.out.cell (World.block_lt_of_cell? w _ hx477_0)).trans hx477_0
        replace hx477_1 := (HB.out.cell (World.block_lt_of_cell? w _ hx477_1)).trans hx477_1
        replace hx477_2 := (HB.out.cell (World.block_lt_of_cell? w _ hx477_2)).trans hx477_2
        replace hx477_3 := (HB.out.cell (World.block_lt_of_cell? w _ hx477_3)).trans hx477_3
        have HR477_3 := Aside0.mk hi477_3; have HC477_3 := Aside0.mk hl477_3; clear hi477_3 hl477_3
        replace p477 := eq_true p477
        replace q477 := eq_true q477
        go_wp2_with (first | ((with_reducible refine gate_callee (f := 29) rfl ?_); refine goesL_ (some 43) rfl rfl Tryd.func29 (by kernel_rfl) rfl #[] rfl (by (try simp only [List.map_toArray, List.map_cons, List.map_nil]); first | done | rfl | (simp only [List.length_drop, List.length_take]; rfl)) ?_; (with_reducible refine (tiklaw16_first.calls k2  t478 _ ?side1 A16.out).mono ?_); (case side1 => first | (with_reducible exact HT.out) | exact tabAt HT.out (by repeat (first | (with_reducible first | exact HB.out | apply below_alloc | apply pw_below_drewN | apply below_drew1 | refine below_set ?_ GE474.out) | exact HB.out))); rintro e w17 ⟨rfl, hb⟩; refine ⟨_, rfl, ?_⟩; have n0_ := Aside0.mk (blk_below (g := gb474) (o := .cells #[.int .i64 a0_0, .int .u64 a0_1] 63 (0, 0)) (by (with_reducible repeat (first | refine blk_drewN ?_ _ | refine blk_drew ?_ | refine blk_alloc ?_ _)); exact BK474.out) hb); have n1_ := Aside0.mk (below_step (by repeat (first | (with_reducible first | exact HB.out | apply below_alloc | apply pw_below_drewN | apply below_drew1 | refine below_set ?_ GE474.out) | exact HB.out)) hb); clear BK474; clear HB; have BK474 := n0_; have HB := n1_; clear n0_ n1_; (try clear hb); (try clear hb2); (try clear hk); (try clear hi)))
        go_ret
        exact ⟨by first | rfl | (simp [errW_none, errW_some] <;> rfl) | (simp [*, errW_none, errW_some] <;> rfl), by repeat (first | (with_reducible first | exact HB.out | apply below_alloc | apply pw_below_drewN | apply below_drew1 | refine below_set ?_ GE474.out) | exact HB.out)⟩
       rw [if_neg c13] at H
       have c13b0 : decide (x7_2 < (l1.length : Int)) = false := decide_eq_false c13
       clear c13
       replace H := Option.bind_eq_some_iff.mp H
       obtain ⟨⟨t479, t482⟩, A180, H⟩ := H
       replace H : (if t482 = true then ((seg_Read.f k2 t479).bind fun bt484 => ((seg_Name.f a0_0).bind fun t492 => ((seg_Number.f k2 t492).bind fun bt493 => (if bt484.2.2.2.2 = 0 then (if bt484.1 = a0_0 then (if bt484.2.1 = a0_1 then (if bt484.2.2.2.1 = (t479.length : Int) then (if (bt484.2.2.1.length : Int) = (l1.length : Int) then (if bt493.2 = true then (tiklaw16_SegBack.j2 k2 l1 a2 t479 (bt493.1 != a0_0) bt484.1 bt484.2.1 bt484.2.2.1 bt484.2.2.2.1) else (tiklaw16_SegBack.j2 k2 l1 a2 t479 true bt484.1 bt484.2.1 bt484.2.2.1 bt484.2.2.2.1)) else (tiklaw16_SegBack.j2 k2 l1 a2 t479 true bt484.1 bt484.2.1 bt484.2.2.1 bt484.2.2.2.1)) else (tiklaw16_SegBack.j2 k2 l1 a2 t479 true bt484.1 bt484.2.1 bt484.2.2.1 bt484.2.2.2.1)) else (tiklaw16_SegBack.j2 k2 l1 a2 t479 true bt484.1 bt484.2.1 bt484.2.2.1 bt484.2.2.2.1)) else (tiklaw16_SegBack.j2 k2 l1 a2 t479 true bt484.1 bt484.2.1 bt484.2.2.1 bt484.2.2.2.1)) else (tiklaw16_SegBack.j2 k2 l1 a2 t479 true bt484.1 bt484.2.1 bt484.2.2.1 bt484.2.2.2.1))))) else ((tiklaw16_first.f k2).bind fun t483 => (some t483))) = some r := H
       have A18 := Aside0.mk A180; clear A180
       by_cases c19 : t482 = true
       rotate_left
       ·replace c19 := Bool.eq_false_iff.mpr c19
        subst c19
        have H1 : ((tiklaw16_first.f k2).bind fun t483 => (some t483)) = some r := by rw [if_neg (show ¬ (false = true) by decide)] at H; exact H
        clear H; have H := H1; clear H1
        replace H := Option.bind_eq_some_iff.mp H
        obtain ⟨t483, A1290, H⟩ := H
        replace H : (some t483) = some r := H
        have A129 := Aside0.mk A1290; clear A1290
        obtain rfl := Option.some.inj H
        have hcz130_0 : wr.cell? ⟨gb474, 0, none⟩ = some (.int .i64 a0_0) := (blk_cell BK474.out 0).trans rfl
        have hcz130_1 : wr.cell? ⟨gb474, 1, none⟩ = some (.int .u64 a0_1) := (blk_cell BK474.out 1).trans rfl
        have hfz130_0 := blk_frozen BK474.out 0; have hfz130_1 := blk_frozen BK474.out 1
        go_wp2_with (first | ((with_reducible refine gate_callee (f := 41) rfl ?_); refine goesL_ (some 47) rfl rfl Tryd.func41 (by kernel_rfl) rfl #[.agg #[.int .i64 a0_0, .int .u64 a0_1], .slice A1 l1.length c1] rfl (by (try simp only [List.map_toArray, List.map_cons, List.map_nil]); first | done | rfl | (simp only [List.length_drop, List.length_take]; rfl)) ?_; (with_reducible refine (tiklaw16_file.calls k2 a0_0 a0_1 _ _ l1 t479 false _ ?side1 ?side2 A18.out).mono ?_); (case side1 => repeat (first | exact (Kd.C_below HR1.out HB.out) | (with_reducible refine Kd.C_alloc ?_ _) | (with_reducible refine Kd.C_drewN ?_ _) | (with_reducible refine Kd.C_drew ?_))); (case side2 => exact HC1.out); rintro e w131 ⟨v480, rfl, ho0, hb⟩; refine ⟨_, rfl, ?_⟩; have n0_ := Aside0.mk (Kd.R_lower ho0 (below_size (by repeat (first | (with_reducible first | exact HB.out | apply below_alloc | apply pw_below_drewN | apply below_drew1 | refine below_set ?_ GE474.out) | exact HB.out)))); have n1_ := Aside0.mk (blk_below (g := gb474) (o := .cells #[.int .i64 a0_0, .int .u64 a0_1] 63 (0, 0)) (by (with_reducible repeat (first | refine blk_drewN ?_ _ | refine blk_drew ?_ | refine blk_alloc ?_ _)); exact BK474.out) hb); have n2_ := Aside0.mk (below_step (by repeat (first | (with_reducible first | exact HB.out | apply below_alloc | apply pw_below_drewN | apply below_drew1 | refine below_set ?_ GE474.out) | exact HB.out)) hb); clear BK474; clear HB; have HO481 := n0_; have BK474 := n1_; have HB := n2_; clear n0_ n1_ n2_; (try clear hb); (try clear hb2); (try clear hk); (try clear hi); (try clear ho0)) | ((with_reducible refine gate_callee (f := 29) rfl ?_); refine goesL_ (some 52) rfl rfl Tryd.func29 (by kernel_rfl) rfl #[] rfl (by (try simp only [List.map_toArray, List.map_cons, List.map_nil]); first | done | rfl | (simp only [List.length_drop, List.length_take]; rfl)) ?_; (with_reducible refine (tiklaw16_first.calls k2  t483 _ ?side1 A129.out).mono ?_); (case side1 => first | (with_reducible exact HT.out) | exact tabAt HT.out (by repeat (first | (with_reducible first | exact HB.out | apply below_alloc | apply pw_below_drewN | apply below_drew1 | refine below_set ?_ GE474.out) | exact HB.out))); rintro e w132 ⟨rfl, hb⟩; refine ⟨_, rfl, ?_⟩; have n0_ := Aside0.mk (Kd.R_below (by (with_reducible repeat (first | apply Kd.R_alloc | apply Kd.R_drewN | apply Kd.R_drew)); exact HO481.out) hb); have n1_ := Aside0.mk (blk_below (g := gb474) (o := .cells #[.int .i64 a0_0, .int .u64 a0_1] 63 (0, 0)) (by (with_reducible repeat (first | refine blk_drewN ?_ _ | refine blk_drew ?_ | refine blk_alloc ?_ _)); exact BK474.out) hb); have n2_ := Aside0.mk (below_step (by repeat (first | (with_reducible first | exact HB.out | apply below_alloc | apply pw_below_drewN | apply below_drew1 | refine below_set ?_ GE474.out) | exact HB.out)) hb); clear HO481; clear BK474; clear HB; have HO481 := n0_; have BK474 := n1_; have HB := n2_; clear n0_ n1_ n2_; (try clear hb); (try clear hb2); (try clear hk); (try clear hi)))
        go_ret
        exact ⟨by first | rfl | (simp [errW_none, errW_some] <;> rfl) | (simp [*, errW_none, errW_some] <;> rfl), by repeat (first | (with_reducible first | exact HB.out | apply below_alloc | apply pw_below_drewN | apply below_drew1 | refine below_set ?_ GE474.out) | exact HB.out)⟩
       subst c19
       have H1 : ((seg_Read.f k2 t479).bind fun bt484 => ((seg_Name.f a0_0).bind fun t492 => ((seg_Number.f k2 t492).bind fun bt493 => (if bt484.2.2.2.2 = 0 then (if bt484.1 = a0_0 then (if bt484.2.1 = a0_1 then (if bt484.2.2.2.1 = (t479.length : Int) then (if (bt484.2.2.1.length : Int) = (l1.length : Int) then (if bt493.2 = true then (tiklaw16_SegBack.j2 k2 l1 a2 t479 (bt493.1 != a0_0) bt484.1 bt484.2.1 bt484.2.2.1 bt484.2.2.2.1) else (tiklaw16_SegBack.j2 k2 l1 a2 t479 true bt484.1 bt484.2.1 bt484.2.2.1 bt484.2.2.2.1)) else (tiklaw16_SegBack.j2 k2 l1 a2 t479 true bt484.1 bt484.2.1 bt484.2.2.1 bt484.2.2.2.1)) else (tiklaw16_SegBack.j2 k2 l1 a2 t479 true bt484.1 bt484.2.1 bt484.2.2.1 bt484.2.2.2.1)) else (tiklaw16_SegBack.j2 k2 l1 a2 t479 true bt484.1 bt484.2.1 bt484.2.2.1 bt484.2.2.2.1)) else (tiklaw16_SegBack.j2 k2 l1 a2 t479 true bt484.1 bt484.2.1 bt484.2.2.1 bt484.2.2.2.1)) else (tiklaw16_SegBack.j2 k2 l1 a2 t479 true bt484.1 bt484.2.1 bt484.2.2.1 bt484.2.2.2.1))))) = some r := by rw [if_pos rfl] at H; exact H
       clear H; have H := H1; clear H1
       replace H := Option.bind_eq_some_iff.mp H
       obtain ⟨⟨t484, t485, t486, t489, t490⟩, A200, H⟩ := H
       replace H : ((seg_Name.f a0_0).bind fun t492 => ((seg_Number.f k2 t492).bind fun bt493 => (if t490 = 0 then (if t484 = a0_0 then (if t485 = a0_1 then (if t489 = (t479.length : Int) then (if (t486.length : Int) = (l1.length : Int) then (if bt493.2 = true then (tiklaw16_SegBack.j2 k2 l1 a2 t479 (bt493.1 != a0_0) t484 t485 t486 t489) else (tiklaw16_SegBack.j2 k2 l1 a2 t479 true t484 t485 t486 t489)) else (tiklaw16_SegBack.j2 k2 l1 a2 t479 true t484 t485 t486 t489)) else (tiklaw16_SegBack.j2 k2 l1 a2 t479 true t484 t485 t486 t489)) else (tiklaw16_SegBack.j2 k2 l1 a2 t479 true t484 t485 t486 t489)) else (tiklaw16_SegBack.j2 k2 l1 a2 t479 true t484 t485 t486 t489)) else (tiklaw16_SegBack.j2 k2 l1 a2 t479 true t484 t485 t486 t489)))) = some r := H
       have A20 := Aside0.mk A200; clear A200
       replace H := Option.bind_eq_some_iff.mp H
       obtain ⟨t492, A210, H⟩ := H
       replace H : ((seg_Number.f k2 t492).bind fun bt493 => (if t490 = 0 then (if t484 = a0_0 then (if t485 = a0_1 then (if t489 = (t479.length : Int) then (if (t486.length : Int) = (l1.length : Int) then (if bt493.2 = true then (tiklaw16_SegBack.j2 k2 l1 a2 t479 (bt493.1 != a0_0) t484 t485 t486 t489) else (tiklaw16_SegBack.j2 k2 l1 a2 t479 true t484 t485 t486 t489)) else (tiklaw16_SegBack.j2 k2 l1 a2 t479 true t484 t485 t486 t489)) else (tiklaw16_SegBack.j2 k2 l1 a2 t479 true t484 t485 t486 t489)) else (tiklaw16_SegBack.j2 k2 l1 a2 t479 true t484 t485 t486 t489)) else (tiklaw16_SegBack.j2 k2 l1 a2 t479 true t484 t485 t486 t489)) else (tiklaw16_SegBack.j2 k2 l1 a2 t479 true t484 t485 t486 t489))) = some r := H
       have A21 := Aside0.mk A210; clear A210
       replace H := Option.bind_eq_some_iff.mp H
       obtain ⟨⟨t493, t494⟩, A220, H⟩ := H
       replace H : (if t490 = 0 then (if t484 = a0_0 then (if t485 = a0_1 then (if t489 = (t479.length : Int) then (if (t486.length : Int) = (l1.length : Int) then (if t494 = true then (tiklaw16_SegBack.j2 k2 l1 a2 t479 (t493 != a0_0) t484 t485 t486 t489) else (tiklaw16_SegBack.j2 k2 l1 a2 t479 true t484 t485 t486 t489)) else (tiklaw16_SegBack.j2 k2 l1 a2 t479 true t484 t485 t486 t489)) else (tiklaw16_SegBack.j2 k2 l1 a2 t479 true t484 t485 t486 t489)) else (tiklaw16_SegBack.j2 k2 l1 a2 t479 true t484 t485 t486 t489)) else (tiklaw16_SegBack.j2 k2 l1 a2 t479 true t484 t485 t486 t489)) else (tiklaw16_SegBack.j2 k2 l1 a2 t479 true t484 t485 t486 t489)) = some r := H
       have A22 := Aside0.mk A220; clear A220; have HC23 := Aside0.mk H; clear H
       have hcz24_0 : wr.cell? ⟨gb474, 0, none⟩ = some (.int .i64 a0_0) := (blk_cell BK474.out 0).trans rfl
       have hcz24_1 : wr.cell? ⟨gb474, 1, none⟩ = some (.int .u64 a0_1) := (blk_cell BK474.out 1).trans rfl
       have hfz24_0 := blk_frozen BK474.out 0; have hfz24_1 := blk_frozen BK474.out 1
       go_upto_region 15 with (first | ((with_reducible refine gate_callee (f := 41) rfl ?_); refine goesL_ (some 47) rfl rfl Tryd.func41 (by kernel_rfl) rfl #[.agg #[.int .i64 a0_0, .int .u64 a0_1], .slice A1 l1.length c1] rfl (by (try simp only [List.map_toArray, List.map_cons, List.map_nil]); first | done | rfl | (simp only [List.length_drop, List.length_take]; rfl)) ?_; (with_reducible refine (tiklaw16_file.calls k2 a0_0 a0_1 _ _ l1 t479 true _ ?side1 ?side2 A18.out).mono ?_); (case side1 => repeat (first | exact (Kd.C_below HR1.out HB.out) | (with_reducible refine Kd.C_alloc ?_ _) | (with_reducible refine Kd.C_drewN ?_ _) | (with_reducible refine Kd.C_drew ?_))); (case side2 => exact HC1.out); rintro e w25 ⟨v480, rfl, ho0, hb⟩; refine ⟨_, rfl, ?_⟩; have n0_ := Aside0.mk (Kd.R_lower ho0 (below_size (by repeat (first | (with_reducible first | exact HB.out | apply below_alloc | apply pw_below_drewN | apply below_drew1 | refine below_set ?_ GE474.out) | exact HB.out)))); have n1_ := Aside0.mk (blk_below (g := gb474) (o := .cells #[.int .i64 a0_0, .int .u64 a0_1] 63 (0, 0)) (by (with_reducible repeat (first | refine blk_drewN ?_ _ | refine blk_drew ?_ | refine blk_alloc ?_ _)); exact BK474.out) hb); have n2_ := Aside0.mk (below_step (by repeat (first | (with_reducible first | exact HB.out | apply below_alloc | apply pw_below_drewN | apply below_drew1 | refine below_set ?_ GE474.out) | exact HB.out)) hb); clear BK474; clear HB; have HO481 := n0_; have BK474 := n1_; have HB := n2_; clear n0_ n1_ n2_; (try clear hb); (try clear hb2); (try clear hk); (try clear hi); (try clear ho0); obtain ⟨Ao26, co26, eo26⟩ := Kd.R_slice HO481.out; subst eo26) | ((with_reducible refine gate_callee (f := 34) rfl ?_); refine goesL_ (some 55) rfl rfl Tryd.func34 (by kernel_rfl) rfl #[.slice Ao26 t479.length co26] rfl (by (try simp only [List.map_toArray, List.map_cons, List.map_nil]); first | done | rfl | (simp only [List.length_drop, List.length_take]; rfl)) ?_; (with_reducible refine (seg_Read.calls k2 _ _ t479 t484 t485 t486 t489 t490 _ ?side1 ?side2 A20.out).mono ?_); (case side1 => repeat (first | exact (Kd.R_reads' HO481.out).2.2 | (with_reducible refine Kd.C_alloc ?_ _) | (with_reducible refine Kd.C_drewN ?_ _) | (with_reducible refine Kd.C_drew ?_))); (case side2 => exact (Kd.R_reads' HO481.out).2.1); rintro e w27 ⟨v487, rfl, ho0, hb⟩; refine ⟨_, rfl, ?_⟩; have n0_ := Aside0.mk (Kd.R_below (by (with_reducible repeat (first | apply Kd.R_alloc | apply Kd.R_drewN | apply Kd.R_drew)); exact HO481.out) hb); have n1_ := Aside0.mk (Kd.S_lower (Kd.S_new' ho0 (Kd.R_lt (by (with_reducible repeat (first | apply Kd.R_alloc | apply Kd.R_drewN | apply Kd.R_drew)); exact HO481.out))) (below_size (by repeat (first | (with_reducible first | exact HB.out | apply below_alloc | apply pw_below_drewN | apply below_drew1 | refine below_set ?_ GE474.out) | exact HB.out)))); have n2_ := Aside0.mk (blk_below (g := gb474) (o := .cells #[.int .i64 a0_0, .int .u64 a0_1] 63 (0, 0)) (by (with_reducible repeat (first | refine blk_drewN ?_ _ | refine blk_drew ?_ | refine blk_alloc ?_ _)); exact BK474.out) hb); have n3_ := Aside0.mk (below_step (by repeat (first | (with_reducible first | exact HB.out | apply below_alloc | apply pw_below_drewN | apply below_drew1 | refine below_set ?_ GE474.out) | exact HB.out)) hb); clear HO481; clear BK474; clear HB; have HO481 := n0_; have HO488 := n1_; have BK474 := n2_; have HB := n3_; clear n0_ n1_ n2_ n3_; (try clear hb); (try clear hb2); (try clear hk); (try clear hi); (try clear ho0)) | ((with_reducible refine gate_dst (N := 10) rfl ?_); (try (refine gate_guard (by rfl) ?_; dsimp only)); refine box_event ?hg (N := 10) ?hd (cs := #[.int .i64 0, .int .u64 0, .slice none 0 0, .int .i64 0]) (t := 72) ?hr ?_; (case hd => rfl); (case hg => rfl); (case hr => first | (go_simp; done) | (go_simp; rfl)); intro gb491 hg w28 hbox hb; have n0_ := Aside0.mk (Kd.R_below (by (with_reducible repeat (first | apply Kd.R_alloc | apply Kd.R_drewN | apply Kd.R_drew)); exact HO481.out) hb); have n1_ := Aside0.mk (Kd.S_below (by (with_reducible repeat (first | apply Kd.S_alloc | apply Kd.S_drewN | apply Kd.S_drew)); exact HO488.out) hb); have n2_ := Aside0.mk (blk_below (g := gb474) (o := .cells #[.int .i64 a0_0, .int .u64 a0_1] 63 (0, 0)) (by (with_reducible repeat (first | refine blk_drewN ?_ _ | refine blk_drew ?_ | refine blk_alloc ?_ _)); exact BK474.out) hb); have n3_ := Aside0.mk (below_step (by repeat (first | (with_reducible first | exact HB.out | apply below_alloc | apply pw_below_drewN | apply below_drew1 | refine below_set ?_ GE474.out) | exact HB.out)) hb); have n4_ := Aside0.mk (hbox); have n5_ := Aside0.mk ((by rw [hg]; exact (below_size (by repeat (first | (with_reducible first | exact HB.out | apply below_alloc | apply pw_below_drewN | apply below_drew1 | refine below_set ?_ GE474.out) | exact HB.out))) : w.heap.size ≤ gb491)); have n6_ := Aside0.mk ((by rw [hg]; exact (below_size (by repeat (first | (with_reducible first | exact HB.out | apply below_alloc | apply pw_below_drewN | apply below_drew1 | refine below_set ?_ GE474.out) | exact HB.out))) : w.heap.size ≤ gb491)); have n7_ := Aside0.mk ((by rw [hg]; exact Nat.ne_of_lt (blk_lt (g := gb474) (o := .cells #[.int .i64 a0_0, .int .u64 a0_1] 63 (0, 0)) (by (with_reducible repeat (first | refine blk_drewN ?_ _ | refine blk_drew ?_ | refine blk_alloc ?_ _)); exact BK474.out)) : gb474 ≠ gb491)); have n8_ := Aside0.mk ((by rw [hg]; exact Nat.ne_of_gt (blk_lt (g := gb474) (o := .cells #[.int .i64 a0_0, .int .u64 a0_1] 63 (0, 0)) (by (with_reducible repeat (first | refine blk_drewN ?_ _ | refine blk_drew ?_ | refine blk_alloc ?_ _)); exact BK474.out)) : gb491 ≠ gb474)); clear HO481; clear HO488; clear BK474; clear HB; have HO481 := n0_; have HO488 := n1_; have BK474 := n2_; have HB := n3_; have BK491 := n4_; have GW491 := n5_; have GE491 := n6_; have NB474_491 := n7_; have NB491_474 := n8_; clear n0_ n1_ n2_ n3_ n4_ n5_ n6_ n7_ n8_; clear hb hbox hg; have hnb29 := NB491_474.out; have hnc29 := NB474_491.out; have hcz30_0 : w28.cell? ⟨gb491, 0, none⟩ = some (.int .i64 0) := (blk_cell BK491.out 0).trans rfl; have hcz30_1 : w28.cell? ⟨gb491, 1, none⟩ = some (.int .u64 0) := (blk_cell BK491.out 1).trans rfl; have hcz30_2 : w28.cell? ⟨gb491, 2, none⟩ = some (.slice none 0 0) := (blk_cell BK491.out 2).trans rfl; have hcz30_3 : w28.cell? ⟨gb491, 3, none⟩ = some (.int .i64 0) := (blk_cell BK491.out 3).trans rfl; have hfz30_0 := blk_frozen BK491.out 0; have hfz30_1 := blk_frozen BK491.out 1; have hfz30_2 := blk_frozen BK491.out 2; have hfz30_3 := blk_frozen BK491.out 3; obtain ⟨Ao31, co31, eo31⟩ := Kd.S_slice HO488.out; subst eo31; have hcz32_0 : w28.cell? ⟨gb474, 0, none⟩ = some (.int .i64 a0_0) := (blk_cell BK474.out 0).trans rfl; have hcz32_1 : w28.cell? ⟨gb474, 1, none⟩ = some (.int .u64 a0_1) := (blk_cell BK474.out 1).trans rfl; have hfz32_0 := blk_frozen BK474.out 0; have hfz32_1 := blk_frozen BK474.out 1) | ((with_reducible refine gate_callee (f := 36) rfl ?_); refine goesL_ (some 61) rfl rfl Tryd.func36 (by kernel_rfl) rfl #[.int .i64 a0_0] rfl (by (try simp only [List.map_toArray, List.map_cons, List.map_nil]); first | done | rfl | (simp only [List.length_drop, List.length_take]; rfl)) ?_; (with_reducible refine (seg_Name.calls a0_0 t492 _ ?side1 A21.out).mono ?_); (case side1 => first | (with_reducible exact HT.out) | exact tabAt HT.out (by repeat (first | (with_reducible first | exact HB.out | apply below_alloc | apply pw_below_drewN | apply below_drew1 | refine below_set ?_ GE474.out | refine below_set ?_ GE491.out) | exact HB.out))); rintro e w33 ⟨rfl, hb⟩; refine ⟨_, rfl, ?_⟩; have n0_ := Aside0.mk (Kd.R_below (by (with_reducible repeat (first | apply Kd.R_alloc | apply Kd.R_drewN | apply Kd.R_drew)); exact (Kd.R_mono (Kd.R_far (p := ⟨gb491, 3, none⟩) (Kd.R_far (p := ⟨gb491, 2, none⟩) (Kd.R_far (p := ⟨gb491, 1, none⟩) (Kd.R_far (p := ⟨gb491, 0, none⟩) (Kd.R_types HO481.out BK491.out (by decide)) (fun _ hk => hk.2) (.int .i64 t484)) (fun _ hk => hk.2) (.int .u64 t485)) (fun _ hk => hk.2) (.slice Ao31 t486.length co31)) (fun _ hk => hk.2) (.int .i64 t489)) (fun _ h_ => h_.1))) hb); have n1_ := Aside0.mk (Kd.S_below (by (with_reducible repeat (first | apply Kd.S_alloc | apply Kd.S_drewN | apply Kd.S_drew)); exact (Kd.S_mono (Kd.S_far (p := ⟨gb491, 3, none⟩) (Kd.S_far (p := ⟨gb491, 2, none⟩) (Kd.S_far (p := ⟨gb491, 1, none⟩) (Kd.S_far (p := ⟨gb491, 0, none⟩) (Kd.S_types HO488.out BK491.out (by decide)) (fun _ hk => hk.2) (.int .i64 t484)) (fun _ hk => hk.2) (.int .u64 t485)) (fun _ hk => hk.2) (.slice Ao31 t486.length co31)) (fun _ hk => hk.2) (.int .i64 t489)) (fun _ h_ => h_.1))) hb); have n2_ := Aside0.mk (blk_below (g := gb474) (o := .cells #[.int .i64 a0_0, .int .u64 a0_1] 63 (0, 0)) (by (with_reducible repeat (first | refine blk_drewN ?_ _ | refine blk_drew ?_ | refine blk_alloc ?_ _)); refine blk_far ?_ NB474_491.out _; (with_reducible repeat (first | refine blk_drewN ?_ _ | refine blk_drew ?_ | refine blk_alloc ?_ _)); refine blk_far ?_ NB474_491.out _; (with_reducible repeat (first | refine blk_drewN ?_ _ | refine blk_drew ?_ | refine blk_alloc ?_ _)); refine blk_far ?_ NB474_491.out _; (with_reducible repeat (first | refine blk_drewN ?_ _ | refine blk_drew ?_ | refine blk_alloc ?_ _)); refine blk_far ?_ NB474_491.out _; (with_reducible repeat (first | refine blk_drewN ?_ _ | refine blk_drew ?_ | refine blk_alloc ?_ _)); exact BK474.out) hb); have n3_ := Aside0.mk (blk_below (g := gb491) (o := .cells #[.int .i64 t484, .int .u64 t485, .slice Ao31 t486.length co31, .int .i64 t489] 72 (0, 0)) (by (with_reducible repeat (first | refine blk_drewN ?_ _ | refine blk_drew ?_ | refine blk_alloc ?_ _)); refine blk_put (cs := #[.int .i64 t484, .int .u64 t485, .slice Ao31 t486.length co31, .int .i64 0]) ?_ 3 _ rfl; (with_reducible repeat (first | refine blk_drewN ?_ _ | refine blk_drew ?_ | refine blk_alloc ?_ _)); refine blk_put (cs := #[.int .i64 t484, .int .u64 t485, .slice none 0 0, .int .i64 0]) ?_ 2 _ rfl; (with_reducible repeat (first | refine blk_drewN ?_ _ | refine blk_drew ?_ | refine blk_alloc ?_ _)); refine blk_put (cs := #[.int .i64 t484, .int .u64 0, .slice none 0 0, .int .i64 0]) ?_ 1 _ rfl; (with_reducible repeat (first | refine blk_drewN ?_ _ | refine blk_drew ?_ | refine blk_alloc ?_ _)); refine blk_put (cs := #[.int .i64 0, .int .u64 0, .slice none 0 0, .int .i64 0]) ?_ 0 _ rfl; (with_reducible repeat (first | refine blk_drewN ?_ _ | refine blk_drew ?_ | refine blk_alloc ?_ _)); exact BK491.out) hb); have n4_ := Aside0.mk (below_step (by repeat (first | (with_reducible first | exact HB.out | apply below_alloc | apply pw_below_drewN | apply below_drew1 | refine below_set ?_ GE474.out | refine below_set ?_ GE491.out) | exact HB.out)) hb); clear HO481; clear HO488; clear BK474; clear BK491; clear HB; have HO481 := n0_; have HO488 := n1_; have BK474 := n2_; have BK491 := n3_; have HB := n4_; clear n0_ n1_ n2_ n3_ n4_; (try clear hb); (try clear hb2); (try clear hk); (try clear hi)) | ((with_reducible refine gate_callee (f := 30) rfl ?_); refine goesL_ (some 62) rfl rfl Tryd.func30 (by kernel_rfl) rfl #[.string t492] rfl (by (try simp only [List.map_toArray, List.map_cons, List.map_nil]); first | done | rfl | (simp only [List.length_drop, List.length_take]; rfl)) ?_; (with_reducible refine (seg_Number.calls k2 t492 t493 t494 _ ?side1 A22.out).mono ?_); (case side1 => first | (with_reducible exact HT.out) | exact tabAt HT.out (by repeat (first | (with_reducible first | exact HB.out | apply below_alloc | apply pw_below_drewN | apply below_drew1 | refine below_set ?_ GE474.out | refine below_set ?_ GE491.out) | exact HB.out))); rintro e w34 ⟨rfl, hb⟩; refine ⟨_, rfl, ?_⟩; have n0_ := Aside0.mk (Kd.R_below (by (with_reducible repeat (first | apply Kd.R_alloc | apply Kd.R_drewN | apply Kd.R_drew)); exact HO481.out) hb); have n1_ := Aside0.mk (Kd.S_below (by (with_reducible repeat (first | apply Kd.S_alloc | apply Kd.S_drewN | apply Kd.S_drew)); exact HO488.out) hb); have n2_ := Aside0.mk (blk_below (g := gb474) (o := .cells #[.int .i64 a0_0, .int .u64 a0_1] 63 (0, 0)) (by (with_reducible repeat (first | refine blk_drewN ?_ _ | refine blk_drew ?_ | refine blk_alloc ?_ _)); exact BK474.out) hb); have n3_ := Aside0.mk (blk_below (g := gb491) (o := .cells #[.int .i64 t484, .int .u64 t485, .slice Ao31 t486.length co31, .int .i64 t489] 72 (0, 0)) (by (with_reducible repeat (first | refine blk_drewN ?_ _ | refine blk_drew ?_ | refine blk_alloc ?_ _)); exact BK491.out) hb); have n4_ := Aside0.mk (below_step (by repeat (first | (with_reducible first | exact HB.out | apply below_alloc | apply pw_below_drewN | apply below_drew1 | refine below_set ?_ GE474.out | refine below_set ?_ GE491.out) | exact HB.out)) hb); clear HO481; clear HO488; clear BK474; clear BK491; clear HB; have HO481 := n0_; have HO488 := n1_; have BK474 := n2_; have BK491 := n3_; have HB := n4_; clear n0_ n1_ n2_ n3_ n4_; (try clear hb); (try clear hb2); (try clear hk); (try clear hi)))
       (try simp only [Act.put, List.setIfInBounds_toArray, List.set_cons_zero, List.set_cons_succ])
       go_cut [107] (fun v107 wc => ∃ (kq : Nat) (x107_22 : Bool), v107 = .bool x107_22 ∧ Aside0 (tiklaw16_SegBack.j2 kq l1 a2 t479 x107_22 t484 t485 t486 t489 = some r) ∧ Aside0 (kq ≤ k2) ∧ Aside0 (Kd.R (Kd.int .u8) 5 wc w.heap.size (fun _ => True) (.slice Ao26 t479.length co26) t479) ∧ Aside0 (Kd.S k93 93 wc w.heap.size (fun k_ => some k_ ≠ ((.slice Ao26 t479.length co26) : Value).ownBlock) (.slice Ao31 t486.length co31) t486) ∧ Aside0 (wc.heap[gb474]? = some (.cells #[.int .i64 a0_0, .int .u64 a0_1] 63 (0, 0))) ∧ Aside0 (wc.heap[gb491]? = some (.cells #[.int .i64 t484, .int .u64 t485, (.slice Ao31 t486.length co31), .int .i64 t489] 72 (0, 0))) ∧ Aside0 (Below w.heap.size w wc))
       case first =>
        have H := HC23.out; clear HC23
        by_cases c35 : t490 = 0
        rotate_left
        ·rw [if_neg c35] at H
         have c35b0 : (t490 == 0) = false := beq_eq_false_iff_ne.mpr c35
         have c35b1 : (t490 != 0) = true := bne_iff_ne.mpr c35
         (first | rw [c35b0] | (simp only [i64_w, i32_w]; rw [c35b0]) | skip)
         have H' := Aside0.mk H; clear H
         go_wp2
         go_meet
         case rel => exact ⟨_, (true), (by first | rfl | (simp; done) | (simp [*]; done)), H', ⟨by have := HJ5.out; have := HK2.out; first | omega | exact Nat.le_refl _⟩, ⟨by (with_reducible repeat (first | apply Kd.R_alloc | apply Kd.R_drewN | apply Kd.R_drew)); exact HO481.out⟩, ⟨by (with_reducible repeat (first | apply Kd.S_alloc | apply Kd.S_drewN | apply Kd.S_drew)); exact Kd.S_mono HO488.out (fun _ hk => hk.2)⟩, ⟨by (with_reducible repeat (first | refine blk_drewN ?_ _ | refine blk_drew ?_ | refine blk_alloc ?_ _)); exact BK474.out⟩, ⟨by (with_reducible repeat (first | refine blk_drewN ?_ _ | refine blk_drew ?_ | refine blk_alloc ?_ _)); exact BK491.out⟩, ⟨by repeat (first | (with_reducible first | exact HB.out | apply below_alloc | apply pw_below_drewN | apply below_drew1 | refine below_set ?_ GE474.out | refine below_set ?_ GE491.out) | exact HB.out)⟩⟩
        rw [if_pos c35] at H
        have c35b0 : (t490 == 0) = true := beq_iff_eq.mpr c35
        have c35b1 : (t490 != 0) = false := bne_eq_false_iff_eq.mpr c35
        clear c35
        (first | rw [c35b0] | (simp only [i64_w, i32_w]; rw [c35b0]) | skip)
        by_cases c36 : t484 = a0_0
        rotate_left
        ·rw [if_neg c36] at H
         have c36b0 : (t484 == a0_0) = false := beq_eq_false_iff_ne.mpr c36
         have c36b1 : (t484 != a0_0) = true := bne_iff_ne.mpr c36
         have H' := Aside0.mk H; clear H; have hnb56 := NB491_474.out; have hnc56 := NB474_491.out
         have hcz57_0 : w34.cell? ⟨gb491, 0, none⟩ = some (.int .i64 t484) := (blk_cell BK491.out 0).trans rfl
         have hcz57_1 : w34.cell? ⟨gb491, 1, none⟩ = some (.int .u64 t485) := (blk_cell BK491.out 1).trans rfl
         have hcz57_2 : w34.cell? ⟨gb491, 2, none⟩ = some (.slice Ao31 t486.length co31) := (blk_cell BK491.out 2).trans rfl
         have hcz57_3 : w34.cell? ⟨gb491, 3, none⟩ = some (.int .i64 t489) := (blk_cell BK491.out 3).trans rfl
         have hfz57_0 := blk_frozen BK491.out 0; have hfz57_1 := blk_frozen BK491.out 1; have hfz57_2 := blk_frozen BK491.out 2; have hfz57_3 := blk_frozen BK491.out 3
         have hcz58_0 : w34.cell? ⟨gb474, 0, none⟩ = some (.int .i64 a0_0) := (blk_cell BK474.out 0).trans rfl
         have hcz58_1 : w34.cell? ⟨gb474, 1, none⟩ = some (.int .u64 a0_1) := (blk_cell BK474.out 1).trans rfl
         have hfz58_0 := blk_frozen BK474.out 0; have hfz58_1 := blk_frozen BK474.out 1
         go_wp2
         go_meet
         case rel => exact ⟨_, (true), (by first | rfl | (simp; done) | (simp [*]; done)), H', ⟨by have := HJ5.out; have := HK2.out; first | omega | exact Nat.le_refl _⟩, ⟨by (with_reducible repeat (first | apply Kd.R_alloc | apply Kd.R_drewN | apply Kd.R_drew)); exact HO481.out⟩, ⟨by (with_reducible repeat (first | apply Kd.S_alloc | apply Kd.S_drewN | apply Kd.S_drew)); exact Kd.S_mono HO488.out (fun _ hk => hk.2)⟩, ⟨by (with_reducible repeat (first | refine blk_drewN ?_ _ | refine blk_drew ?_ | refine blk_alloc ?_ _)); exact BK474.out⟩, ⟨by (with_reducible repeat (first | refine blk_drewN ?_ _ | refine blk_drew ?_ | refine blk_alloc ?_ _)); exact BK491.out⟩, ⟨by repeat (first | (with_reducible first | exact HB.out | apply below_alloc | apply pw_below_drewN | apply below_drew1 | refine below_set ?_ GE474.out | refine below_set ?_ GE491.out) | exact HB.out)⟩⟩
        rw [if_pos c36] at H
        have c36b0 : (t484 == a0_0) = true := beq_iff_eq.mpr c36
        have c36b1 : (t484 != a0_0) = false := bne_eq_false_iff_eq.mpr c36
        clear c36
        by_cases c37 : t485 = a0_1
        rotate_left
        ·rw [if_neg c37] at H
         have c37b0 : (t485 == a0_1) = false := beq_eq_false_iff_ne.mpr c37
         have c37b1 : (t485 != a0_1) = true := bne_iff_ne.mpr c37
         have H' := Aside0.mk H; clear H; have hnb53 := NB491_474.out; have hnc53 := NB474_491.out
         have hcz54_0 : w34.cell? ⟨gb491, 0, none⟩ = some (.int .i64 t484) := (blk_cell BK491.out 0).trans rfl
         have hcz54_1 : w34.cell? ⟨gb491, 1, none⟩ = some (.int .u64 t485) := (blk_cell BK491.out 1).trans rfl
         have hcz54_2 : w34.cell? ⟨gb491, 2, none⟩ = some (.slice Ao31 t486.length co31) := (blk_cell BK491.out 2).trans rfl
         have hcz54_3 : w34.cell? ⟨gb491, 3, none⟩ = some (.int .i64 t489) := (blk_cell BK491.out 3).trans rfl
         have hfz54_0 := blk_frozen BK491.out 0; have hfz54_1 := blk_frozen BK491.out 1; have hfz54_2 := blk_frozen BK491.out 2; have hfz54_3 := blk_frozen BK491.out 3
         have hcz55_0 : w34.cell? ⟨gb474, 0, none⟩ = some (.int .i64 a0_0) := (blk_cell BK474.out 0).trans rfl
         have hcz55_1 : w34.cell? ⟨gb474, 1, none⟩ = some (.int .u64 a0_1) := (blk_cell BK474.out 1).trans rfl
         have hfz55_0 := blk_frozen BK474.out 0; have hfz55_1 := blk_frozen BK474.out 1
         go_wp2
         go_meet
         case rel => exact ⟨_, (true), (by first | rfl | (simp; done) | (simp [*]; done)), H', ⟨by have := HJ5.out; have := HK2.out; first | omega | exact Nat.le_refl _⟩, ⟨by (with_reducible repeat (first | apply Kd.R_alloc | apply Kd.R_drewN | apply Kd.R_drew)); exact HO481.out⟩, ⟨by (with_reducible repeat (first | apply Kd.S_alloc | apply Kd.S_drewN | apply Kd.S_drew)); exact Kd.S_mono HO488.out (fun _ hk => hk.2)⟩, ⟨by (with_reducible repeat (first | refine blk_drewN ?_ _ | refine blk_drew ?_ | refine blk_alloc ?_ _)); exact BK474.out⟩, ⟨by (with_reducible repeat (first | refine blk_drewN ?_ _ | refine blk_drew ?_ | refine blk_alloc ?_ _)); exact BK491.out⟩, ⟨by repeat (first | (with_reducible first | exact HB.out | apply below_alloc | apply pw_below_drewN | apply below_drew1 | refine below_set ?_ GE474.out | refine below_set ?_ GE491.out) | exact HB.out)⟩⟩
        rw [if_pos c37] at H
        have c37b0 : (t485 == a0_1) = true := beq_iff_eq.mpr c37
        have c37b1 : (t485 != a0_1) = false := bne_eq_false_iff_eq.mpr c37
        clear c37
        by_cases c38 : t489 = (t479.length : Int)
        rotate_left
        ·rw [if_neg c38] at H
         have c38b0 : (t489 == (t479.length : Int)) = false := beq_eq_false_iff_ne.mpr c38
         have c38b1 : (t489 != (t479.length : Int)) = true := bne_iff_ne.mpr c38
         have H' := Aside0.mk H; clear H; have hnb50 := NB491_474.out; have hnc50 := NB474_491.out
         have hcz51_0 : w34.cell? ⟨gb491, 0, none⟩ = some (.int .i64 t484) := (blk_cell BK491.out 0).trans rfl
         have hcz51_1 : w34.cell? ⟨gb491, 1, none⟩ = some (.int .u64 t485) := (blk_cell BK491.out 1).trans rfl
         have hcz51_2 : w34.cell? ⟨gb491, 2, none⟩ = some (.slice Ao31 t486.length co31) := (blk_cell BK491.out 2).trans rfl
         have hcz51_3 : w34.cell? ⟨gb491, 3, none⟩ = some (.int .i64 t489) := (blk_cell BK491.out 3).trans rfl
         have hfz51_0 := blk_frozen BK491.out 0; have hfz51_1 := blk_frozen BK491.out 1; have hfz51_2 := blk_frozen BK491.out 2; have hfz51_3 := blk_frozen BK491.out 3
         have hcz52_0 : w34.cell? ⟨gb474, 0, none⟩ = some (.int .i64 a0_0) := (blk_cell BK474.out 0).trans rfl
         have hcz52_1 : w34.cell? ⟨gb474, 1, none⟩ = some (.int .u64 a0_1) := (blk_cell BK474.out 1).trans rfl
         have hfz52_0 := blk_frozen BK474.out 0; have hfz52_1 := blk_frozen BK474.out 1
         go_wp2
         go_meet
         case rel => exact ⟨_, (true), (by first | rfl | (simp; done) | (simp [*]; done)), H', ⟨by have := HJ5.out; have := HK2.out; first | omega | exact Nat.le_refl _⟩, ⟨by (with_reducible repeat (first | apply Kd.R_alloc | apply Kd.R_drewN | apply Kd.R_drew)); exact HO481.out⟩, ⟨by (with_reducible repeat (first | apply Kd.S_alloc | apply Kd.S_drewN | apply Kd.S_drew)); exact Kd.S_mono HO488.out (fun _ hk => hk.2)⟩, ⟨by (with_reducible repeat (first | refine blk_drewN ?_ _ | refine blk_drew ?_ | refine blk_alloc ?_ _)); exact BK474.out⟩, ⟨by (with_reducible repeat (first | refine blk_drewN ?_ _ | refine blk_drew ?_ | refine blk_alloc ?_ _)); exact BK491.out⟩, ⟨by repeat (first | (with_reducible first | exact HB.out | apply below_alloc | apply pw_below_drewN | apply below_drew1 | refine below_set ?_ GE474.out | refine below_set ?_ GE491.out) | exact HB.out)⟩⟩
        rw [if_pos c38] at H
        have c38b0 : (t489 == (t479.length : Int)) = true := beq_iff_eq.mpr c38
        have c38b1 : (t489 != (t479.length : Int)) = false := bne_eq_false_iff_eq.mpr c38
        clear c38
        by_cases c39 : (t486.length : Int) = (l1.length : Int)
        rotate_left
        ·rw [if_neg c39] at H
         have c39b0 : ((t486.length : Int) == (l1.length : Int)) = false := beq_eq_false_iff_ne.mpr c39
         have c39b1 : ((t486.length : Int) != (l1.length : Int)) = true := bne_iff_ne.mpr c39
         have c39b2 : (t486.length == l1.length) = false := by first | simpa using c39 | (simp at c39 ⊢; omega)
         have H' := Aside0.mk H; clear H; have hnb47 := NB491_474.out; have hnc47 := NB474_491.out
         have hcz48_0 : w34.cell? ⟨gb491, 0, none⟩ = some (.int .i64 t484) := (blk_cell BK491.out 0).trans rfl
         have hcz48_1 : w34.cell? ⟨gb491, 1, none⟩ = some (.int .u64 t485) := (blk_cell BK491.out 1).trans rfl
         have hcz48_2 : w34.cell? ⟨gb491, 2, none⟩ = some (.slice Ao31 t486.length co31) := (blk_cell BK491.out 2).trans rfl
         have hcz48_3 : w34.cell? ⟨gb491, 3, none⟩ = some (.int .i64 t489) := (blk_cell BK491.out 3).trans rfl
         have hfz48_0 := blk_frozen BK491.out 0; have hfz48_1 := blk_frozen BK491.out 1; have hfz48_2 := blk_frozen BK491.out 2; have hfz48_3 := blk_frozen BK491.out 3
         have hcz49_0 : w34.cell? ⟨gb474, 0, none⟩ = some (.int .i64 a0_0) := (blk_cell BK474.out 0).trans rfl
         have hcz49_1 : w34.cell? ⟨gb474, 1, none⟩ = some (.int .u64 a0_1) := (blk_cell BK474.out 1).trans rfl
         have hfz49_0 := blk_frozen BK474.out 0; have hfz49_1 := blk_frozen BK474.out 1
         go_wp2
         go_meet
         case rel => exact ⟨_, (true), (by first | rfl | (simp; done) | (simp [*]; done)), H', ⟨by have := HJ5.out; have := HK2.out; first | omega | exact Nat.le_refl _⟩, ⟨by (with_reducible repeat (first | apply Kd.R_alloc | apply Kd.R_drewN | apply Kd.R_drew)); exact HO481.out⟩, ⟨by (with_reducible repeat (first | apply Kd.S_alloc | apply Kd.S_drewN | apply Kd.S_drew)); exact Kd.S_mono HO488.out (fun _ hk => hk.2)⟩, ⟨by (with_reducible repeat (first | refine blk_drewN ?_ _ | refine blk_drew ?_ | refine blk_alloc ?_ _)); exact BK474.out⟩, ⟨by (with_reducible repeat (first | refine blk_drewN ?_ _ | refine blk_drew ?_ | refine blk_alloc ?_ _)); exact BK491.out⟩, ⟨by repeat (first | (with_reducible first | exact HB.out | apply below_alloc | apply pw_below_drewN | apply below_drew1 | refine below_set ?_ GE474.out | refine below_set ?_ GE491.out) | exact HB.out)⟩⟩
        rw [if_pos c39] at H
        have c39b0 : ((t486.length : Int) == (l1.length : Int)) = true := beq_iff_eq.mpr c39
        have c39b1 : ((t486.length : Int) != (l1.length : Int)) = false := bne_eq_false_iff_eq.mpr c39
        have c39b2 : (t486.length == l1.length) = true := by first | simpa using c39 | (simp at c39 ⊢; omega)
        clear c39
        by_cases c40 : t494 = true
        ·subst c40
         have H1 : (tiklaw16_SegBack.j2 k2 l1 a2 t479 (t493 != a0_0) t484 t485 t486 t489) = some r := by rw [if_pos rfl] at H; exact H
         clear H; have H := H1; clear H1; have H' := Aside0.mk H; clear H; have hnb41 := NB491_474.out; have hnc41 := NB474_491.out
         have hcz42_0 : w34.cell? ⟨gb491, 0, none⟩ = some (.int .i64 t484) := (blk_cell BK491.out 0).trans rfl
         have hcz42_1 : w34.cell? ⟨gb491, 1, none⟩ = some (.int .u64 t485) := (blk_cell BK491.out 1).trans rfl
         have hcz42_2 : w34.cell? ⟨gb491, 2, none⟩ = some (.slice Ao31 t486.length co31) := (blk_cell BK491.out 2).trans rfl
         have hcz42_3 : w34.cell? ⟨gb491, 3, none⟩ = some (.int .i64 t489) := (blk_cell BK491.out 3).trans rfl
         have hfz42_0 := blk_frozen BK491.out 0; have hfz42_1 := blk_frozen BK491.out 1; have hfz42_2 := blk_frozen BK491.out 2; have hfz42_3 := blk_frozen BK491.out 3
         have hcz43_0 : w34.cell? ⟨gb474, 0, none⟩ = some (.int .i64 a0_0) := (blk_cell BK474.out 0).trans rfl
         have hcz43_1 : w34.cell? ⟨gb474, 1, none⟩ = some (.int .u64 a0_1) := (blk_cell BK474.out 1).trans rfl
         have hfz43_0 := blk_frozen BK474.out 0; have hfz43_1 := blk_frozen BK474.out 1
         go_wp2
         go_meet
         case rel => exact ⟨_, ((t493 != a0_0)), (by first | rfl | (simp; done) | (simp [*]; done)), H', ⟨by have := HJ5.out; have := HK2.out; first | omega | exact Nat.le_refl _⟩, ⟨by (with_reducible repeat (first | apply Kd.R_alloc | apply Kd.R_drewN | apply Kd.R_drew)); exact HO481.out⟩, ⟨by (with_reducible repeat (first | apply Kd.S_alloc | apply Kd.S_drewN | apply Kd.S_drew)); exact Kd.S_mono HO488.out (fun _ hk => hk.2)⟩, ⟨by (with_reducible repeat (first | refine blk_drewN ?_ _ | refine blk_drew ?_ | refine blk_alloc ?_ _)); exact BK474.out⟩, ⟨by (with_reducible repeat (first | refine blk_drewN ?_ _ | refine blk_drew ?_ | refine blk_alloc ?_ _)); exact BK491.out⟩, ⟨by repeat (first | (with_reducible first | exact HB.out | apply below_alloc | apply pw_below_drewN | apply below_drew1 | refine below_set ?_ GE474.out | refine below_set ?_ GE491.out) | exact HB.out)⟩⟩
        replace c40 := Bool.eq_false_iff.mpr c40
        subst c40
        have H1 : (tiklaw16_SegBack.j2 k2 l1 a2 t479 true t484 t485 t486 t489) = some r := by rw [if_neg (show ¬ (false = true) by decide)] at H; exact H
        clear H; have H := H1; clear H1; have H' := Aside0.mk H; clear H; have hnb44 := NB491_474.out; have hnc44 := NB474_491.out
        have hcz45_0 : w34.cell? ⟨gb491, 0, none⟩ = some (.int .i64 t484) := (blk_cell BK491.out 0).trans rfl
        have hcz45_1 : w34.cell? ⟨gb491, 1, none⟩ = some (.int .u64 t485) := (blk_cell BK491.out 1).trans rfl
        have hcz45_2 : w34.cell? ⟨gb491, 2, none⟩ = some (.slice Ao31 t486.length co31) := (blk_cell BK491.out 2).trans rfl
        have hcz45_3 : w34.cell? ⟨gb491, 3, none⟩ = some (.int .i64 t489) := (blk_cell BK491.out 3).trans rfl
        have hfz45_0 := blk_frozen BK491.out 0; have hfz45_1 := blk_frozen BK491.out 1; have hfz45_2 := blk_frozen BK491.out 2; have hfz45_3 := blk_frozen BK491.out 3
        have hcz46_0 : w34.cell? ⟨gb474, 0, none⟩ = some (.int .i64 a0_0) := (blk_cell BK474.out 0).trans rfl
        have hcz46_1 : w34.cell? ⟨gb474, 1, none⟩ = some (.int .u64 a0_1) := (blk_cell BK474.out 1).trans rfl
        have hfz46_0 := blk_frozen BK474.out 0; have hfz46_1 := blk_frozen BK474.out 1
        go_wp2
        go_meet
        case rel => exact ⟨_, (true), (by first | rfl | (simp; done) | (simp [*]; done)), H', ⟨by have := HJ5.out; have := HK2.out; first | omega | exact Nat.le_refl _⟩, ⟨by (with_reducible repeat (first | apply Kd.R_alloc | apply Kd.R_drewN | apply Kd.R_drew)); exact HO481.out⟩, ⟨by (with_reducible repeat (first | apply Kd.S_alloc | apply Kd.S_drewN | apply Kd.S_drew)); exact Kd.S_mono HO488.out (fun _ hk => hk.2)⟩, ⟨by (with_reducible repeat (first | refine blk_drewN ?_ _ | refine blk_drew ?_ | refine blk_alloc ?_ _)); exact BK474.out⟩, ⟨by (with_reducible repeat (first | refine blk_drewN ?_ _ | refine blk_drew ?_ | refine blk_alloc ?_ _)); exact BK491.out⟩, ⟨by repeat (first | (with_reducible first | exact HB.out | apply below_alloc | apply pw_below_drewN | apply below_drew1 | refine below_set ?_ GE474.out | refine below_set ?_ GE491.out) | exact HB.out)⟩⟩
       case rest =>
        as_aux_lemma =>
         clear HC23; (try clear c1); (try clear c2); (try clear p2); (try clear c3); (try clear c4); (try clear p4); (try clear q4); (try clear hx4); (try clear c5); (try clear p6); (try clear c9); (try clear c9b0); (try clear c9b1); (try clear c10); (try clear c13); (try clear c13b0); (try clear c14); (try clear c14b0); (try clear c15); (try clear c15b0); (try clear c15b1); (try clear c19); (try clear c29); (try clear c30); (try clear c34); (try clear c35); (try clear c35b0); (try clear c35b1); (try clear c36); (try clear c36b0); (try clear c36b1); (try clear c37); (try clear c37b0); (try clear c37b1); (try clear c38); (try clear c38b0); (try clear c38b1); (try clear c39); (try clear c39b0); (try clear c39b1); (try clear c39b2); (try clear c40); (try clear c41); (try clear c44); (try clear c47); (try clear p47); (try clear q47); (try clear hx47); (try clear c50); (try clear c53); (try clear c56); (try clear hcz24_0); (try clear hcz24_1); (try clear hcz30_0); (try clear hcz30_1); (try clear hcz30_2); (try clear hcz30_3); (try clear hcz32_0); (try clear hcz32_1); (try clear hcz42_0); (try clear hcz42_1); (try clear hcz42_2); (try clear hcz42_3); (try clear hcz43_0); (try clear hcz43_1); (try clear hcz45_0); (try clear hcz45_1); (try clear hcz45_2); (try clear hcz45_3); (try clear hcz46_0); (try clear hcz46_1); (try clear hcz48_0); (try clear hcz48_1); (try clear hcz48_2); (try clear hcz48_3); (try clear hcz49_0); (try clear hcz49_1); (try clear hcz51_0); (try clear hcz51_1); (try clear hcz51_2); (try clear hcz51_3); (try clear hcz52_0); (try clear hcz52_1); (try clear hcz54_0); (try clear hcz54_1); (try clear hcz54_2); (try clear hcz54_3); (try clear hcz55_0); (try clear hcz55_1); (try clear hcz57_0); (try clear hcz57_1); (try clear hcz57_2); (try clear hcz57_3); (try clear hcz58_0); (try clear hcz58_1); (try clear hfz24_0); (try clear hfz24_1); (try clear hfz30_0); (try clear hfz30_1); (try clear hfz30_2); (try clear hfz30_3); (try clear hfz32_0); (try clear hfz32_1); (try clear hfz42_0); (try clear hfz42_1); (try clear hfz42_2); (try clear hfz42_3); (try clear hfz43_0); (try clear hfz43_1); (try clear hfz45_0); (try clear hfz45_1); (try clear hfz45_2); (try clear hfz45_3); (try clear hfz46_0); (try clear hfz46_1); (try clear hfz48_0); (try clear hfz48_1); (try clear hfz48_2); (try clear hfz48_3); (try clear hfz49_0); (try clear hfz49_1); (try clear hfz51_0); (try clear hfz51_1); (try clear hfz51_2); (try clear hfz51_3); (try clear hfz52_0); (try clear hfz52_1); (try clear hfz54_0); (try clear hfz54_1); (try clear hfz54_2); (try clear hfz54_3); (try clear hfz55_0); (try clear hfz55_1); (try clear hfz57_0); (try clear hfz57_1); (try clear hfz57_2); (try clear hfz57_3); (try clear hfz58_0); (try clear hfz58_1); (try clear hx477_0); (try clear hx477_1); (try clear hx477_2); (try clear hx477_3); (try clear p2); (try clear p477); (try clear q477); obtain ⟨kq, x107_22, rfl, HA, HJ22, HO_8, HO_492002, BK474, BK491, HB⟩ := hcut
         cases kq with
         | zero => exact absurd HA.out (by simp [tiklaw16_SegBack.j2])
         | succ kj22 =>
          have H := HA.out; clear HA
          simp only [tiklaw16_SegBack.j2] at H
          by_cases c59 : x107_22 = true
          ·subst c59
           have H1 : (some false) = some r := by rw [if_pos rfl] at H; exact H
           clear H; have H := H1; clear H1
           exact absurd ((Option.some.inj H).trans hr_.out) (by simp)
          replace c59 := Bool.eq_false_iff.mpr c59
          subst c59
          have H1 : (tiklaw16_SegBack.l1 kj22 l1 a2 t479 20 0 t484 t485 t486 t489) = some r := by rw [if_neg (show ¬ (false = true) by decide)] at H; exact H
          clear H; have H := H1; clear H1; have H' := Aside0.mk H; clear H
          go_wp2
          go_loopg [14, 15] kj22 (fun kq v14 v15 w' => ∃ (x14_4 : Int) (x15_4 : Int), v14 = .int .i64 x14_4 ∧ v15 = .int .i64 x15_4 ∧ Aside0 (tiklaw16_SegBack.l1 kq l1 a2 t479 x14_4 x15_4 t484 t485 t486 t489 = some r) ∧ Aside0 (kq ≤ kj22) ∧ Aside0 (Kd.R (Kd.int .u8) 5 w' w.heap.size (fun _ => True) (.slice Ao26 t479.length co26) t479) ∧ Aside0 (Kd.S k93 93 w' w.heap.size (fun k_ => some k_ ≠ ((.slice Ao26 t479.length co26) : Value).ownBlock) (.slice Ao31 t486.length co31) t486) ∧ Aside0 (w'.heap[gb474]? = some (.cells #[.int .i64 a0_0, .int .u64 a0_1] 63 (0, 0))) ∧ Aside0 (w'.heap[gb491]? = some (.cells #[.int .i64 t484, .int .u64 t485, (.slice Ao31 t486.length co31), .int .i64 t489] 72 (0, 0))) ∧ Aside0 (Below w.heap.size w w'))
          case atStart => exact ⟨(20), (0), (by first | rfl | (simp; done) | (simp [*]; done)), (by first | rfl | (simp; done) | (simp [*]; done)), H', ⟨Nat.le_refl _⟩, ⟨by (with_reducible repeat (first | apply Kd.R_alloc | apply Kd.R_drewN | apply Kd.R_drew)); exact HO_8.out⟩, ⟨by (with_reducible repeat (first | apply Kd.S_alloc | apply Kd.S_drewN | apply Kd.S_drew)); exact HO_492002.out⟩, ⟨by (with_reducible repeat (first | refine blk_drewN ?_ _ | refine blk_drew ?_ | refine blk_alloc ?_ _)); exact BK474.out⟩, ⟨by (with_reducible repeat (first | refine blk_drewN ?_ _ | refine blk_drew ?_ | refine blk_alloc ?_ _)); exact BK491.out⟩, ⟨by repeat (first | (with_reducible first | exact HB.out | apply below_alloc | apply pw_below_drewN | apply below_drew1 | refine below_set ?_ GE474.out | refine below_set ?_ GE491.out) | exact HB.out)⟩⟩
          case round =>
           as_aux_lemma =>
            clear H'
            (try clear c1); (try clear c2); (try clear p2); (try clear c3); (try clear c4); (try clear p4); (try clear q4); (try clear hx4); (try clear c5); (try clear p6); (try clear c9); (try clear c9b0); (try clear c9b1); (try clear c10); (try clear c13); (try clear c13b0); (try clear c14); (try clear c14b0); (try clear c15); (try clear c15b0); (try clear c15b1); (try clear c19); (try clear c29); (try clear c30); (try clear c34); (try clear c35); (try clear c35b0); (try clear c35b1); (try clear c36); (try clear c36b0); (try clear c36b1); (try clear c37); (try clear c37b0); (try clear c37b1); (try clear c38); (try clear c38b0); (try clear c38b1); (try clear c39); (try clear c39b0); (try clear c39b1); (try clear c39b2); (try clear c40); (try clear c41); (try clear c44); (try clear c47); (try clear p47); (try clear q47); (try clear hx47); (try clear c50); (try clear c53); (try clear c56); (try clear c59); (try clear hcz24_0); (try clear hcz24_1); (try clear hcz30_0); (try clear hcz30_1); (try clear hcz30_2); (try clear hcz30_3); (try clear hcz32_0); (try clear hcz32_1); (try clear hcz42_0); (try clear hcz42_1); (try clear hcz42_2); (try clear hcz42_3); (try clear hcz43_0); (try clear hcz43_1); (try clear hcz45_0); (try clear hcz45_1); (try clear hcz45_2); (try clear hcz45_3); (try clear hcz46_0); (try clear hcz46_1); (try clear hcz48_0); (try clear hcz48_1); (try clear hcz48_2); (try clear hcz48_3); (try clear hcz49_0); (try clear hcz49_1); (try clear hcz51_0); (try clear hcz51_1); (try clear hcz51_2); (try clear hcz51_3); (try clear hcz52_0); (try clear hcz52_1); (try clear hcz54_0); (try clear hcz54_1); (try clear hcz54_2); (try clear hcz54_3); (try clear hcz55_0); (try clear hcz55_1); (try clear hcz57_0); (try clear hcz57_1); (try clear hcz57_2); (try clear hcz57_3); (try clear hcz58_0); (try clear hcz58_1); (try clear hfz24_0); (try clear hfz24_1); (try clear hfz30_0); (try clear hfz30_1); (try clear hfz30_2); (try clear hfz30_3); (try clear hfz32_0); (try clear hfz32_1); (try clear hfz42_0); (try clear hfz42_1); (try clear hfz42_2); (try clear hfz42_3); (try clear hfz43_0); (try clear hfz43_1); (try clear hfz45_0); (try clear hfz45_1); (try clear hfz45_2); (try clear hfz45_3); (try clear hfz46_0); (try clear hfz46_1); (try clear hfz48_0); (try clear hfz48_1); (try clear hfz48_2); (try clear hfz48_3); (try clear hfz49_0); (try clear hfz49_1); (try clear hfz51_0); (try clear hfz51_1); (try clear hfz51_2); (try clear hfz51_3); (try clear hfz52_0); (try clear hfz52_1); (try clear hfz54_0); (try clear hfz54_1); (try clear hfz54_2); (try clear hfz54_3); (try clear hfz55_0); (try clear hfz55_1); (try clear hfz57_0); (try clear hfz57_1); (try clear hfz57_2); (try clear hfz57_3); (try clear hfz58_0); (try clear hfz58_1); (try clear hx477_0); (try clear hx477_1); (try clear hx477_2); (try clear hx477_3); (try clear p2); (try clear p4); (try clear p47); (try clear p477); (try clear p6); (try clear q4); (try clear q47); (try clear q477); obtain ⟨x14_4, x15_4, rfl, rfl, HA, HK4, HO_8, HO_492002, BK474, BK491, HB⟩ := hrel
            cases gk with
            | zero => exact absurd HA.out (by simp [tiklaw16_SegBack.l1])
            | succ k4 =>
             have H := HA.out; clear HA
             simp only [tiklaw16_SegBack.l1] at H
             by_cases c60 : x15_4 < (l1.length : Int)
             ·rw [if_pos c60] at H
              have c60b0 : decide (x15_4 < (l1.length : Int)) = true := decide_eq_true c60
              clear c60
              by_cases c61 : 0 ≤ x15_4
              rotate_left
              ·rw [if_neg c61] at H
               exact absurd H (by simp)
              rw [if_pos c61] at H
              have c61b0 : decide (0 ≤ x15_4) = true := decide_eq_true c61
              clear c61
              by_cases c62 : x15_4 < (t486.length : Int)
              rotate_left
              ·rw [if_neg c62] at H
               exact absurd H (by simp)
              rw [if_pos c62] at H
              have c62b0 : decide (x15_4 < (t486.length : Int)) = true := decide_eq_true c62
              clear c62
              replace H := Option.bind_eq_some_iff.mp H
              obtain ⟨t497, A630, H⟩ := H
              replace H : (if t497 = true then (if ((rd_T93 t486 x15_4).f1) = x14_4 then (if ((rd_T93 t486 x15_4).f2) ≤ x14_4 then (some false) else (tiklaw16_SegBack.l1 k4 l1 a2 t479 ((rd_T93 t486 x15_4).f2) (wrap64 (x15_4 + 1)) t484 t485 t486 t489)) else (some false)) else (some false)) = some r := H
              have A63 := Aside0.mk A630; clear A630
              by_cases c64 : t497 = true
              rotate_left
              ·replace c64 := Bool.eq_false_iff.mpr c64
               subst c64
               have H1 : (some false) = some r := by rw [if_neg (show ¬ (false = true) by decide)] at H; exact H
               clear H; have H := H1; clear H1
               exact absurd ((Option.some.inj H).trans hr_.out) (by simp)
              subst c64
              have H1 : (if ((rd_T93 t486 x15_4).f1) = x14_4 then (if ((rd_T93 t486 x15_4).f2) ≤ x14_4 then (some false) else (tiklaw16_SegBack.l1 k4 l1 a2 t479 ((rd_T93 t486 x15_4).f2) (wrap64 (x15_4 + 1)) t484 t485 t486 t489)) else (some false)) = some r := by rw [if_pos rfl] at H; exact H
              clear H; have H := H1; clear H1
              by_cases c65 : ((rd_T93 t486 x15_4).f1) = x14_4
              rotate_left
              ·rw [if_neg c65] at H
               have c65b0 : (((rd_T93 t486 x15_4).f1) == x14_4) = false := beq_eq_false_iff_ne.mpr c65
               have c65b1 : (((rd_T93 t486 x15_4).f1) != x14_4) = true := bne_iff_ne.mpr c65
               exact absurd ((Option.some.inj H).trans hr_.out) (by simp)
              rw [if_pos c65] at H
              have c65b0 : (((rd_T93 t486 x15_4).f1) == x14_4) = true := beq_iff_eq.mpr c65
              have c65b1 : (((rd_T93 t486 x15_4).f1) != x14_4) = false := bne_eq_false_iff_eq.mpr c65
              clear c65
              by_cases c66 : ((rd_T93 t486 x15_4).f2) ≤ x14_4
              ·rw [if_pos c66] at H
               have c66b0 : decide (((rd_T93 t486 x15_4).f2) ≤ x14_4) = true := decide_eq_true c66
               clear c66
               exact absurd ((Option.some.inj H).trans hr_.out) (by simp)
              rw [if_neg c66] at H
              have c66b0 : decide (((rd_T93 t486 x15_4).f2) ≤ x14_4) = false := decide_eq_false c66
              clear c66; have H' := Aside0.mk H; clear H
              try go_wp2
              have n0_ := Aside0.mk (Kd.R_drew HO_8.out); have n1_ := Aside0.mk (Kd.S_drew HO_492002.out); have n2_ := Aside0.mk (blk_drew BK474.out); have n3_ := Aside0.mk (blk_drew BK491.out); have n4_ := Aside0.mk (below_drew1 HB.out); clear HO_8; clear HO_492002; clear BK474; clear BK491; clear HB; have HO_8 := n0_; have HO_492002 := n1_; have BK474 := n2_; have BK491 := n3_; have HB := n4_; clear n0_ n1_ n2_ n3_ n4_
              have p495 : 0 ≤ (x15_4 : Int) := of_decide_eq_true (by first | (with_reducible assumption) | assumption)
              have q495 : x15_4 < (t486.length : Int) := of_decide_eq_true (by first | (with_reducible assumption) | assumption)
              obtain ⟨ad495, A495_3, c495_3, e495, hx495_0, hx495_1, hx495_2, hx495_3, hx495_4, hx495_5, hl495_3, hi495_3⟩ := at_T93 (Kd.S_reads' HO_492002.out).2.2 x15_4 p495 q495
              cases e495
              obtain ⟨ce495, hce495, hMe495, hcc495⟩ := Kd.S_get HO_492002.out z93 x15_4 p495 (by first | exact q495 | exact of_decide_eq_true (by first | (with_reducible assumption) | assumption) | (have e_ := (Kd.S_reads' HO_492002.out).1; omega)); obtain ⟨ve495_3, rfl, ge495_3⟩ := k93_openM hMe495; have hv495_3 := hcc495 3 _ rfl; rw [add_field _ _ 3 (by omega)] at hv495_3
              replace hv495_3 := Option.some.inj (hv495_3.symm.trans hx495_3)
              rw [hv495_3] at ge495_3; have HL495_3 := Aside0.mk (show Kd.R (Kd.int .u8) 5 _ _ _ _ ((rd_T93 t486 x15_4).f0.f3) from ge495_3); clear hv495_3 ge495_3; clear hcc495 hce495; have HR495_3 := Aside0.mk hi495_3; have HC495_3 := Aside0.mk hl495_3; clear hi495_3 hl495_3
              replace p495 := eq_true p495
              replace q495 := eq_true q495
              have p496 : 0 ≤ (x15_4 : Int) := of_decide_eq_true (by first | (with_reducible assumption) | assumption)
              have q496 : x15_4 < (l1.length : Int) := of_decide_eq_true (by first | (with_reducible assumption) | assumption)
              obtain ⟨ad496, A496_3, c496_3, e496, hx496_0, hx496_1, hx496_2, hx496_3, hl496_3, hi496_3⟩ := at_T88 HR1.out x15_4 p496 q496; have hw496_3 := hx496_3; have hw496_2 := hx496_2; have hw496_1 := hx496_1; have hw496_0 := hx496_0
              cases e496
              replace hx496_0 := (HB.out.cell (World.block_lt_of_cell? w _ hx496_0)).trans hx496_0
              replace hx496_1 := (HB.out.cell (World.block_lt_of_cell? w _ hx496_1)).trans hx496_1
              replace hx496_2 := (HB.out.cell (World.block_lt_of_cell? w _ hx496_2)).trans hx496_2
              replace hx496_3 := (HB.out.cell (World.block_lt_of_cell? w _ hx496_3)).trans hx496_3
              have HR496_3 := Aside0.mk hi496_3; have HC496_3 := Aside0.mk hl496_3; clear hi496_3 hl496_3
              replace p496 := eq_true p496
              replace q496 := eq_true q496
              have p498 : 0 ≤ (x15_4 : Int) := of_decide_eq_true (by first | (with_reducible assumption) | assumption)
              have q498 : x15_4 < (t486.length : Int) := of_decide_eq_true (by first | (with_reducible assumption) | assumption)
              obtain ⟨ad498, A498_3, c498_3, e498, hx498_0, hx498_1, hx498_2, hx498_3, hx498_4, hx498_5, hl498_3, hi498_3⟩ := at_T93 (Kd.S_reads' HO_492002.out).2.2 x15_4 p498 q498
              obtain rfl : ad495 = ad498 := (by injection e498)
              obtain ⟨ce498, hce498, hMe498, hcc498⟩ := Kd.S_get HO_492002.out z93 x15_4 p498 (by first | exact q498 | exact of_decide_eq_true (by first | (with_reducible assumption) | assumption) | (have e_ := (Kd.S_reads' HO_492002.out).1; omega)); obtain ⟨ve498_3, rfl, ge498_3⟩ := k93_openM hMe498; have hv498_3 := hcc498 3 _ rfl; rw [add_field _ _ 3 (by omega)] at hv498_3
              replace hv498_3 := Option.some.inj (hv498_3.symm.trans hx498_3)
              rw [hv498_3] at ge498_3; have HL498_3 := Aside0.mk (show Kd.R (Kd.int .u8) 5 _ _ _ _ ((rd_T93 t486 x15_4).f0.f3) from ge498_3); clear hv498_3 ge498_3; clear hcc498 hce498; have HR498_3 := Aside0.mk hi498_3; have HC498_3 := Aside0.mk hl498_3; clear hi498_3 hl498_3
              replace p498 := eq_true p498
              replace q498 := eq_true q498
              have p499 : 0 ≤ (x15_4 : Int) := of_decide_eq_true (by first | (with_reducible assumption) | assumption)
              have q499 : x15_4 < (t486.length : Int) := of_decide_eq_true (by first | (with_reducible assumption) | assumption)
              obtain ⟨ad499, A499_3, c499_3, e499, hx499_0, hx499_1, hx499_2, hx499_3, hx499_4, hx499_5, hl499_3, hi499_3⟩ := at_T93 (Kd.S_reads' HO_492002.out).2.2 x15_4 p499 q499
              obtain rfl : ad495 = ad499 := (by injection e499)
              obtain ⟨ce499, hce499, hMe499, hcc499⟩ := Kd.S_get HO_492002.out z93 x15_4 p499 (by first | exact q499 | exact of_decide_eq_true (by first | (with_reducible assumption) | assumption) | (have e_ := (Kd.S_reads' HO_492002.out).1; omega)); obtain ⟨ve499_3, rfl, ge499_3⟩ := k93_openM hMe499; have hv499_3 := hcc499 3 _ rfl; rw [add_field _ _ 3 (by omega)] at hv499_3
              replace hv499_3 := Option.some.inj (hv499_3.symm.trans hx499_3)
              rw [hv499_3] at ge499_3; have HL499_3 := Aside0.mk (show Kd.R (Kd.int .u8) 5 _ _ _ _ ((rd_T93 t486 x15_4).f0.f3) from ge499_3); clear hv499_3 ge499_3; clear hcc499 hce499; have HR499_3 := Aside0.mk hi499_3; have HC499_3 := Aside0.mk hl499_3; clear hi499_3 hl499_3
              replace p499 := eq_true p499
              replace q499 := eq_true q499
              have ea_ := Option.some.inj (hx498_3.symm.trans hx499_3)
              injection ea_ with ea_ en_ ec_
              subst ea_; subst ec_; clear en_
              refine start_ (n := 32) (S := fun w' => w'.cell? ⟨gb491, 0, none⟩ = some (.int .i64 t484) ∧ w'.cell? ⟨gb491, 1, none⟩ = some (.int .u64 t485) ∧ w'.cell? ⟨gb491, 2, none⟩ = some (.slice (some ad495) t486.length co31) ∧ w'.cell? ⟨gb491, 3, none⟩ = some (.int .i64 t489) ∧ w'.cell? (ad495.add ((x15_4).toNat * 6)) = some (.int .i64 ((rd_T93 t486 x15_4).f0.f0)) ∧ w'.cell? ⟨(ad495.add ((x15_4).toNat * 6)).block, (ad495.add ((x15_4).toNat * 6)).off + 1, none⟩ = some (.int .u64 ((rd_T93 t486 x15_4).f0.f1)) ∧ w'.cell? ⟨(ad495.add ((x15_4).toNat * 6)).block, (ad495.add ((x15_4).toNat * 6)).off + 2, none⟩ = some (.int .u64 ((rd_T93 t486 x15_4).f0.f2)) ∧ w'.cell? ⟨(ad495.add ((x15_4).toNat * 6)).block, (ad495.add ((x15_4).toNat * 6)).off + 3, none⟩ = some (.slice A495_3 ((rd_T93 t486 x15_4).f0.f3).length c495_3) ∧ w'.cell? ⟨(ad495.add ((x15_4).toNat * 6)).block, (ad495.add ((x15_4).toNat * 6)).off + 4, none⟩ = some (.int .i64 ((rd_T93 t486 x15_4).f1)) ∧ w'.cell? ⟨(ad495.add ((x15_4).toNat * 6)).block, (ad495.add ((x15_4).toNat * 6)).off + 5, none⟩ = some (.int .i64 ((rd_T93 t486 x15_4).f2)) ∧ w'.cell? (ad496.add ((x15_4).toNat * 4)) = some (.int .i64 ((rd_T88 l1 x15_4).f0)) ∧ w'.cell? ⟨(ad496.add ((x15_4).toNat * 4)).block, (ad496.add ((x15_4).toNat * 4)).off + 1, none⟩ = some (.int .u64 ((rd_T88 l1 x15_4).f1)) ∧ w'.cell? ⟨(ad496.add ((x15_4).toNat * 4)).block, (ad496.add ((x15_4).toNat * 4)).off + 2, none⟩ = some (.int .u64 ((rd_T88 l1 x15_4).f2)) ∧ w'.cell? ⟨(ad496.add ((x15_4).toNat * 4)).block, (ad496.add ((x15_4).toNat * 4)).off + 3, none⟩ = some (.slice A496_3 ((rd_T88 l1 x15_4).f3).length c496_3) ∧ w'.cell? (ad495.add ((x15_4).toNat * 6)) = some (.int .i64 ((rd_T93 t486 x15_4).f0.f0)) ∧ w'.cell? ⟨(ad495.add ((x15_4).toNat * 6)).block, (ad495.add ((x15_4).toNat * 6)).off + 1, none⟩ = some (.int .u64 ((rd_T93 t486 x15_4).f0.f1)) ∧ w'.cell? ⟨(ad495.add ((x15_4).toNat * 6)).block, (ad495.add ((x15_4).toNat * 6)).off + 2, none⟩ = some (.int .u64 ((rd_T93 t486 x15_4).f0.f2)) ∧ w'.cell? ⟨(ad495.add ((x15_4).toNat * 6)).block, (ad495.add ((x15_4).toNat * 6)).off + 3, none⟩ = some (.slice A498_3 ((rd_T93 t486 x15_4).f0.f3).length c498_3) ∧ w'.cell? ⟨(ad495.add ((x15_4).toNat * 6)).block, (ad495.add ((x15_4).toNat * 6)).off + 4, none⟩ = some (.int .i64 ((rd_T93 t486 x15_4).f1)) ∧ w'.cell? ⟨(ad495.add ((x15_4).toNat * 6)).block, (ad495.add ((x15_4).toNat * 6)).off + 5, none⟩ = some (.int .i64 ((rd_T93 t486 x15_4).f2)) ∧ w'.cell? (ad495.add ((x15_4).toNat * 6)) = some (.int .i64 ((rd_T93 t486 x15_4).f0.f0)) ∧ w'.cell? ⟨(ad495.add ((x15_4).toNat * 6)).block, (ad495.add ((x15_4).toNat * 6)).off + 1, none⟩ = some (.int .u64 ((rd_T93 t486 x15_4).f0.f1)) ∧ w'.cell? ⟨(ad495.add ((x15_4).toNat * 6)).block, (ad495.add ((x15_4).toNat * 6)).off + 2, none⟩ = some (.int .u64 ((rd_T93 t486 x15_4).f0.f2)) ∧ w'.cell? ⟨(ad495.add ((x15_4).toNat * 6)).block, (ad495.add ((x15_4).toNat * 6)).off + 3, none⟩ = some (.slice A498_3 ((rd_T93 t486 x15_4).f0.f3).length c498_3) ∧ w'.cell? ⟨(ad495.add ((x15_4).toNat * 6)).block, (ad495.add ((x15_4).toNat * 6)).off + 4, none⟩ = some (.int .i64 ((rd_T93 t486 x15_4).f1)) ∧ w'.cell? ⟨(ad495.add ((x15_4).toNat * 6)).block, (ad495.add ((x15_4).toNat * 6)).off + 5, none⟩ = some (.int .i64 ((rd_T93 t486 x15_4).f2))) (ds := []) #[false, false, false, false, false, false, false, false, false, false, false, false, false, false, false, false, false, false, false, false, false, false, false, false, false, false, false, false, false, false, false, false] (by kernel_rfl) rfl rfl ⟨(blk_cell BK491.out 0).trans rfl, (blk_cell BK491.out 1).trans rfl, (blk_cell BK491.out 2).trans rfl, (blk_cell BK491.out 3).trans rfl, hx495_0, hx495_1, hx495_2, hx495_3, hx495_4, hx495_5, ((HB.out.cell (World.block_lt_of_cell? w _ hw496_0)).trans hw496_0), ((HB.out.cell (World.block_lt_of_cell? w _ hw496_1)).trans hw496_1), ((HB.out.cell (World.block_lt_of_cell? w _ hw496_2)).trans hw496_2), ((HB.out.cell (World.block_lt_of_cell? w _ hw496_3)).trans hw496_3), hx498_0, hx498_1, hx498_2, hx498_3, hx498_4, hx498_5, hx499_0, hx499_1, hx499_2, hx499_3, hx499_4, hx499_5⟩ (fun hHeld => ?_); refine with_tabW tiklaw16_SegBack.tab21 tiklaw16_SegBack.bits21 (fun HT_ HW_ => ?_)
              generalize wr.drew = w67 at HO_8 HO_492002 BK474 BK491 HB HL495_3 HL498_3 HL499_3 HR495_3 HR496_3 HR498_3 HR499_3 hx495_0 hx495_1 hx495_2 hx495_3 hx495_4 hx495_5 hx496_0 hx496_1 hx496_2 hx496_3 hx498_0 hx498_1 hx498_2 hx498_3 hx498_4 hx498_5 hx499_0 hx499_1 hx499_2 hx499_3 hx499_4 hx499_5 hHeld ⊢
              refine pure_ (i := 0) (N := some 114) (v := ?_) (a' := ?_) #[true, false, false, false, false, false, false, false, false, false, false, false, false, false, false, false, false, false, false, false, false, false, false, false, false, false, false, false, false, false, false, false] rfl rfl (any_of HT_.out (by kernel_rfl)) (fun _ _ _ h => h) (Or.inl ⟨by rfl, ?_⟩) ?_ ?_
              rotate_left
              ·intro w'
               go_simp
               with_reducible rfl
              rotate_left
              ·simp only [Act.put, List.setIfInBounds_toArray, List.set_cons_zero, List.set_cons_succ, i64_w, i32_w]
               rfl
              refine pure_ (i := 2) (N := some 116) (v := ?_) (a' := ?_) #[true, false, true, false, false, false, false, false, false, false, false, false, false, false, false, false, false, false, false, false, false, false, false, false, false, false, false, false, false, false, false, false] rfl rfl (any_of HT_.out (by kernel_rfl)) (fun _ _ _ h => h) (Or.inl ⟨by rfl, ?_⟩) ?_ ?_
              rotate_left
              ·intro w'
               go_simp
               with_reducible rfl
              rotate_left
              ·simp only [Act.put, List.setIfInBounds_toArray, List.set_cons_zero, List.set_cons_succ, i64_w, i32_w]
               rfl
              refine pure_ (i := 6) (N := some 120) (v := ?_) (a' := ?_) #[true, false, true, false, false, false, true, false, false, false, false, false, false, false, false, false, false, false, false, false, false, false, false, false, false, false, false, false, false, false, false, false] rfl rfl (any_of HT_.out (by kernel_rfl)) (fun _ _ _ h => h) (Or.inl ⟨by rfl, ?_⟩) ?_ ?_
              rotate_left
              ·intro w'
               go_simp
               with_reducible rfl
              rotate_left
              ·simp only [Act.put, List.setIfInBounds_toArray, List.set_cons_zero, List.set_cons_succ, i64_w, i32_w]
               rfl
              refine pure_ (i := 7) (N := some 121) (v := ?_) (a' := ?_) #[true, false, true, false, false, false, true, true, false, false, false, false, false, false, false, false, false, false, false, false, false, false, false, false, false, false, false, false, false, false, false, false] rfl rfl (any_of HT_.out (by kernel_rfl)) (fun _ _ _ h => h) (Or.inl ⟨by rfl, ?_⟩) ?_ ?_
              rotate_left
              ·intro w'
               go_simp
               with_reducible rfl
              rotate_left
              ·simp only [Act.put, List.setIfInBounds_toArray, List.set_cons_zero, List.set_cons_succ, i64_w, i32_w]
               rfl
              refine pure_ (i := 8) (N := some 122) (v := ?_) (a' := ?_) #[true, false, true, false, false, false, true, true, true, false, false, false, false, false, false, false, false, false, false, false, false, false, false, false, false, false, false, false, false, false, false, false] rfl rfl (any_of HT_.out (by kernel_rfl)) (fun _ _ _ h => h) (Or.inl ⟨by rfl, ?_⟩) ?_ ?_
              rotate_left
              ·intro w'
               go_simp
               with_reducible rfl
              rotate_left
              ·simp only [Act.put, List.setIfInBounds_toArray, List.set_cons_zero, List.set_cons_succ, i64_w, i32_w]
               rfl
              refine take_ (i := 1) (N := some 115) (v := ?_) (a' := ?_) #[true, true, true, false, false, false, true, true, true, false, false, false, false, false, false, false, false, false, false, false, false, false, false, false, false, false, false, false, false, false, false, false] rfl rfl (take_ofW HT_.out HW_.out (by kernel_rfl)) (fun _ _ _ h => h) (Or.inl ⟨by rfl, ?_⟩) hHeld ?_ ?_
              rotate_left
              ·rintro w' ⟨s0, s1, s2, s3, s4, s5, s6, s7, s8, s9, s10, s11, s12, s13, s14, s15, s16, s17, s18, s19, s20, s21, s22, s23, s24, s25⟩
               go_simp
               with_reducible rfl
              rotate_left
              ·simp only [Act.put, List.setIfInBounds_toArray, List.set_cons_zero, List.set_cons_succ, i64_w, i32_w]
               rfl
              refine pure_ (i := 3) (N := some 117) (v := ?_) (a' := ?_) #[true, true, true, true, false, false, true, true, true, false, false, false, false, false, false, false, false, false, false, false, false, false, false, false, false, false, false, false, false, false, false, false] rfl rfl (any_of HT_.out (by kernel_rfl)) (fun _ _ _ h => h) (Or.inl ⟨by rfl, ?_⟩) ?_ ?_
              rotate_left
              ·intro w'
               go_simp
               with_reducible rfl
              rotate_left
              ·simp only [Act.put, List.setIfInBounds_toArray, List.set_cons_zero, List.set_cons_succ, i64_w, i32_w]
               rfl
              refine pure_ (i := 4) (N := some 118) (v := ?_) (a' := ?_) #[true, true, true, true, true, false, true, true, true, false, false, false, false, false, false, false, false, false, false, false, false, false, false, false, false, false, false, false, false, false, false, false] rfl rfl (any_of HT_.out (by kernel_rfl)) (fun _ _ _ h => h) (Or.inl ⟨by rfl, ?_⟩) ?_ ?_
              rotate_left
              ·intro w'
               go_simp
               with_reducible rfl
              rotate_left
              ·simp only [Act.put, List.setIfInBounds_toArray, List.set_cons_zero, List.set_cons_succ, i64_w, i32_w]
               rfl
              refine take_ (i := 5) (N := some 119) (v := ?_) (a' := ?_) #[true, true, true, true, true, true, true, true, true, false, false, false, false, false, false, false, false, false, false, false, false, false, false, false, false, false, false, false, false, false, false, false] rfl rfl (take_ofW HT_.out HW_.out (by kernel_rfl)) (fun _ _ _ h => h) (Or.inl ⟨by rfl, ?_⟩) hHeld ?_ ?_
              rotate_left
              ·rintro w' ⟨s0, s1, s2, s3, s4, s5, s6, s7, s8, s9, s10, s11, s12, s13, s14, s15, s16, s17, s18, s19, s20, s21, s22, s23, s24, s25⟩
               go_simp
               with_reducible rfl
              rotate_left
              ·simp only [Act.put, List.setIfInBounds_toArray, List.set_cons_zero, List.set_cons_succ, i64_w, i32_w]
               rfl
              refine take_ (i := 9) (N := some 123) (v := ?_) (a' := ?_) #[true, true, true, true, true, true, true, true, true, true, false, false, false, false, false, false, false, false, false, false, false, false, false, false, false, false, false, false, false, false, false, false] rfl rfl (take_ofW HT_.out HW_.out (by kernel_rfl)) (fun _ _ _ h => h) (Or.inl ⟨by rfl, ?_⟩) hHeld ?_ ?_
              rotate_left
              ·rintro w' ⟨s0, s1, s2, s3, s4, s5, s6, s7, s8, s9, s10, s11, s12, s13, s14, s15, s16, s17, s18, s19, s20, s21, s22, s23, s24, s25⟩
               go_simp
               with_reducible rfl
              rotate_left
              ·simp only [Act.put, List.setIfInBounds_toArray, List.set_cons_zero, List.set_cons_succ, i64_w, i32_w]
               rfl
              refine one_ (i := 10) (N := some 124) #[true, true, true, true, true, true, true, true, true, true, true, false, false, false, false, false, false, false, false, false, false, false, false, false, false, false, false, false, false, false, false, false] rfl rfl (one_of HT_.out (by kernel_rfl)) (by decide) (fun K hK => ?_)
              refine goes_ Tryd.func42 (by kernel_rfl) rfl #[.agg #[.int .i64 ((rd_T93 t486 x15_4).f0.f0), .int .u64 ((rd_T93 t486 x15_4).f0.f1), .int .u64 ((rd_T93 t486 x15_4).f0.f2), .slice A495_3 ((rd_T93 t486 x15_4).f0.f3).length c495_3], .agg #[.int .i64 ((rd_T88 l1 x15_4).f0), .int .u64 ((rd_T88 l1 x15_4).f1), .int .u64 ((rd_T88 l1 x15_4).f2), .slice A496_3 ((rd_T88 l1 x15_4).f3).length c496_3]] (by rfl) rfl rfl (by (try simp only [List.map_toArray, List.map_cons, List.map_nil]); first | done | rfl | (simp only [List.length_drop, List.length_take]; rfl)) ?_
              with_reducible refine (rec_Same.calls ((rd_T93 t486 x15_4).f0.f0) ((rd_T93 t486 x15_4).f0.f1) ((rd_T93 t486 x15_4).f0.f2) _ _ ((rd_T93 t486 x15_4).f0.f3) ((rd_T88 l1 x15_4).f0) ((rd_T88 l1 x15_4).f1) ((rd_T88 l1 x15_4).f2) _ _ ((rd_T88 l1 x15_4).f3) true _ ?side1 ?side2 ?side3 ?side4 A63.out).mono ?_
              (case side1 => repeat (first | exact (by repeat (first | (with_reducible exact HR495_3.out) | (with_reducible refine Kd.C_alloc ?_ _) | (with_reducible refine Kd.C_drewN ?_ _) | (with_reducible refine Kd.C_drew ?_) | exact HR495_3.out)) | (with_reducible refine Kd.C_alloc ?_ _) | (with_reducible refine Kd.C_drewN ?_ _) | (with_reducible refine Kd.C_drew ?_)))
              (case side2 => exact HC495_3.out)
              (case side3 => repeat (first | exact (Kd.C_below HR496_3.out HB.out) | (with_reducible refine Kd.C_alloc ?_ _) | (with_reducible refine Kd.C_drewN ?_ _) | (with_reducible refine Kd.C_drew ?_)))
              (case side4 => exact HC496_3.out)
              rintro e w68 ⟨rfl, hb⟩
              have HS4_ := (hb.cell (World.block_lt_of_cell? _ _ (hHeld.2.2.2.2.1))).trans (hHeld.2.2.2.2.1); have HS5_ := (hb.cell (World.block_lt_of_cell? _ _ (hHeld.2.2.2.2.2.1))).trans (hHeld.2.2.2.2.2.1); have HS6_ := (hb.cell (World.block_lt_of_cell? _ _ (hHeld.2.2.2.2.2.2.1))).trans (hHeld.2.2.2.2.2.2.1); have HS7_ := (hb.cell (World.block_lt_of_cell? _ _ (hHeld.2.2.2.2.2.2.2.1))).trans (hHeld.2.2.2.2.2.2.2.1); have HS8_ := (hb.cell (World.block_lt_of_cell? _ _ (hHeld.2.2.2.2.2.2.2.2.1))).trans (hHeld.2.2.2.2.2.2.2.2.1); have HS9_ := (hb.cell (World.block_lt_of_cell? _ _ (hHeld.2.2.2.2.2.2.2.2.2.1))).trans (hHeld.2.2.2.2.2.2.2.2.2.1); have HS14_ := (hb.cell (World.block_lt_of_cell? _ _ (hHeld.2.2.2.2.2.2.2.2.2.2.2.2.2.2.1))).trans (hHeld.2.2.2.2.2.2.2.2.2.2.2.2.2.2.1); have HS15_ := (hb.cell (World.block_lt_of_cell? _ _ (hHeld.2.2.2.2.2.2.2.2.2.2.2.2.2.2.2.1))).trans (hHeld.2.2.2.2.2.2.2.2.2.2.2.2.2.2.2.1); have HS16_ := (hb.cell (World.block_lt_of_cell? _ _ (hHeld.2.2.2.2.2.2.2.2.2.2.2.2.2.2.2.2.1))).trans (hHeld.2.2.2.2.2.2.2.2.2.2.2.2.2.2.2.2.1); have HS17_ := (hb.cell (World.block_lt_of_cell? _ _ (hHeld.2.2.2.2.2.2.2.2.2.2.2.2.2.2.2.2.2.1))).trans (hHeld.2.2.2.2.2.2.2.2.2.2.2.2.2.2.2.2.2.1); have HS18_ := (hb.cell (World.block_lt_of_cell? _ _ (hHeld.2.2.2.2.2.2.2.2.2.2.2.2.2.2.2.2.2.2.1))).trans (hHeld.2.2.2.2.2.2.2.2.2.2.2.2.2.2.2.2.2.2.1); have HS19_ := (hb.cell (World.block_lt_of_cell? _ _ (hHeld.2.2.2.2.2.2.2.2.2.2.2.2.2.2.2.2.2.2.2.1))).trans (hHeld.2.2.2.2.2.2.2.2.2.2.2.2.2.2.2.2.2.2.2.1); have HS20_ := (hb.cell (World.block_lt_of_cell? _ _ (hHeld.2.2.2.2.2.2.2.2.2.2.2.2.2.2.2.2.2.2.2.2.1))).trans (hHeld.2.2.2.2.2.2.2.2.2.2.2.2.2.2.2.2.2.2.2.2.1); have HS21_ := (hb.cell (World.block_lt_of_cell? _ _ (hHeld.2.2.2.2.2.2.2.2.2.2.2.2.2.2.2.2.2.2.2.2.2.1))).trans (hHeld.2.2.2.2.2.2.2.2.2.2.2.2.2.2.2.2.2.2.2.2.2.1); have HS22_ := (hb.cell (World.block_lt_of_cell? _ _ (hHeld.2.2.2.2.2.2.2.2.2.2.2.2.2.2.2.2.2.2.2.2.2.2.1))).trans (hHeld.2.2.2.2.2.2.2.2.2.2.2.2.2.2.2.2.2.2.2.2.2.2.1); have HS23_ := (hb.cell (World.block_lt_of_cell? _ _ (hHeld.2.2.2.2.2.2.2.2.2.2.2.2.2.2.2.2.2.2.2.2.2.2.2.1))).trans (hHeld.2.2.2.2.2.2.2.2.2.2.2.2.2.2.2.2.2.2.2.2.2.2.2.1); have HS24_ := (hb.cell (World.block_lt_of_cell? _ _ (hHeld.2.2.2.2.2.2.2.2.2.2.2.2.2.2.2.2.2.2.2.2.2.2.2.2.1))).trans (hHeld.2.2.2.2.2.2.2.2.2.2.2.2.2.2.2.2.2.2.2.2.2.2.2.2.1); have HS25_ := (hb.cell (World.block_lt_of_cell? _ _ (hHeld.2.2.2.2.2.2.2.2.2.2.2.2.2.2.2.2.2.2.2.2.2.2.2.2.2))).trans (hHeld.2.2.2.2.2.2.2.2.2.2.2.2.2.2.2.2.2.2.2.2.2.2.2.2.2)
              refine ⟨_, rfl, ?_⟩
              have n0_ := Aside0.mk (Kd.R_below (by (with_reducible repeat (first | apply Kd.R_alloc | apply Kd.R_drewN | apply Kd.R_drew)); exact HO_8.out) hb); have n1_ := Aside0.mk (Kd.S_below (by (with_reducible repeat (first | apply Kd.S_alloc | apply Kd.S_drewN | apply Kd.S_drew)); exact HO_492002.out) hb); have n2_ := Aside0.mk (Kd.R_below (by (with_reducible repeat (first | apply Kd.R_alloc | apply Kd.R_drewN | apply Kd.R_drew)); exact HL495_3.out) hb); have n3_ := Aside0.mk (blk_below (g := gb474) (o := .cells #[.int .i64 a0_0, .int .u64 a0_1] 63 (0, 0)) (by (with_reducible repeat (first | refine blk_drewN ?_ _ | refine blk_drew ?_ | refine blk_alloc ?_ _)); exact BK474.out) hb); have n4_ := Aside0.mk (blk_below (g := gb491) (o := .cells #[.int .i64 t484, .int .u64 t485, .slice (some ad495) t486.length co31, .int .i64 t489] 72 (0, 0)) (by (with_reducible repeat (first | refine blk_drewN ?_ _ | refine blk_drew ?_ | refine blk_alloc ?_ _)); exact BK491.out) hb); have n5_ := Aside0.mk (Kd.C_below (by repeat (first | (with_reducible exact HR495_3.out) | (with_reducible refine Kd.C_alloc ?_ _) | (with_reducible refine Kd.C_drewN ?_ _) | (with_reducible refine Kd.C_drew ?_) | exact HR495_3.out)) hb); have n6_ := Aside0.mk (below_step (by repeat (first | (with_reducible first | exact HB.out | apply below_alloc | apply pw_below_drewN | apply below_drew1 | refine below_set ?_ GE474.out | refine below_set ?_ GE491.out) | exact HB.out)) hb); clear HO_8; clear HO_492002; clear HL495_3; clear BK474; clear BK491; clear HR495_3; clear HB; have HO_8 := n0_; have HO_492002 := n1_; have HL495_3 := n2_; have BK474 := n3_; have BK491 := n4_; have HR495_3 := n5_; have HB := n6_; clear n0_ n1_ n2_ n3_ n4_ n5_ n6_
              (try clear hb)
              (try clear hb2)
              (try clear hk)
              (try clear hi)
              refine hK.out _ _ ⟨(blk_cell BK491.out 0).trans rfl, (blk_cell BK491.out 1).trans rfl, (blk_cell BK491.out 2).trans rfl, (blk_cell BK491.out 3).trans rfl, HS4_, HS5_, HS6_, HS7_, HS8_, HS9_, ((HB.out.cell (World.block_lt_of_cell? w _ hw496_0)).trans hw496_0), ((HB.out.cell (World.block_lt_of_cell? w _ hw496_1)).trans hw496_1), ((HB.out.cell (World.block_lt_of_cell? w _ hw496_2)).trans hw496_2), ((HB.out.cell (World.block_lt_of_cell? w _ hw496_3)).trans hw496_3), HS14_, HS15_, HS16_, HS17_, HS18_, HS19_, HS20_, HS21_, HS22_, HS23_, HS24_, HS25_⟩ (fun hHeld => ?_)
              clear hK K
              refine norm_ (a' := ?_) ?_ ?_
              rotate_left
              ·show Act.put _ (some 124) _ = _
               simp only [Act.put, List.setIfInBounds_toArray, List.set_cons_zero, List.set_cons_succ, i64_w, i32_w]
               rfl
              refine pure_ (i := 11) (N := some 125) (v := ?_) (a' := ?_) #[true, true, true, true, true, true, true, true, true, true, true, true, false, false, false, false, false, false, false, false, false, false, false, false, false, false, false, false, false, false, false, false] rfl rfl (any_of HT_.out (by kernel_rfl)) (fun _ _ _ h => h) (Or.inl ⟨by rfl, ?_⟩) ?_ ?_
              rotate_left
              ·intro w'
               go_simp
               with_reducible rfl
              rotate_left
              ·simp only [Act.put, List.setIfInBounds_toArray, List.set_cons_zero, List.set_cons_succ, i64_w, i32_w]
               rfl
              refine pure_ (i := 12) (N := some 126) (v := ?_) (a' := ?_) #[true, true, true, true, true, true, true, true, true, true, true, true, true, false, false, false, false, false, false, false, false, false, false, false, false, false, false, false, false, false, false, false] rfl rfl (any_of HT_.out (by kernel_rfl)) (fun _ _ _ h => h) (Or.inl ⟨by rfl, ?_⟩) ?_ ?_
              rotate_left
              ·intro w'
               go_simp
               with_reducible rfl
              rotate_left
              ·simp only [Act.put, List.setIfInBounds_toArray, List.set_cons_zero, List.set_cons_succ, i64_w, i32_w]
               rfl
              refine pure_ (i := 13) (N := some 127) (v := ?_) (a' := ?_) #[true, true, true, true, true, true, true, true, true, true, true, true, true, true, false, false, false, false, false, false, false, false, false, false, false, false, false, false, false, false, false, false] rfl rfl (any_of HT_.out (by kernel_rfl)) (fun _ _ _ h => h) (Or.inl ⟨by rfl, ?_⟩) ?_ ?_
              rotate_left
              ·intro w'
               go_simp
               with_reducible rfl
              rotate_left
              ·simp only [Act.put, List.setIfInBounds_toArray, List.set_cons_zero, List.set_cons_succ, i64_w, i32_w]
               rfl
              refine pure_ (i := 15) (N := some 129) (v := ?_) (a' := ?_) #[true, true, true, true, true, true, true, true, true, true, true, true, true, true, false, true, false, false, false, false, false, false, false, false, false, false, false, false, false, false, false, false] rfl rfl (any_of HT_.out (by kernel_rfl)) (fun _ _ _ h => h) (Or.inl ⟨by rfl, ?_⟩) ?_ ?_
              rotate_left
              ·intro w'
               go_simp
               with_reducible rfl
              rotate_left
              ·simp only [Act.put, List.setIfInBounds_toArray, List.set_cons_zero, List.set_cons_succ, i64_w, i32_w]
               rfl
              refine pure_ (i := 19) (N := some 133) (v := ?_) (a' := ?_) #[true, true, true, true, true, true, true, true, true, true, true, true, true, true, false, true, false, false, false, true, false, false, false, false, false, false, false, false, false, false, false, false] rfl rfl (any_of HT_.out (by kernel_rfl)) (fun _ _ _ h => h) (Or.inl ⟨by rfl, ?_⟩) ?_ ?_
              rotate_left
              ·intro w'
               go_simp
               with_reducible rfl
              rotate_left
              ·simp only [Act.put, List.setIfInBounds_toArray, List.set_cons_zero, List.set_cons_succ, i64_w, i32_w]
               rfl
              refine take_ (i := 14) (N := some 128) (v := ?_) (a' := ?_) #[true, true, true, true, true, true, true, true, true, true, true, true, true, true, true, true, false, false, false, true, false, false, false, false, false, false, false, false, false, false, false, false] rfl rfl (take_ofW HT_.out HW_.out (by kernel_rfl)) (fun _ _ _ h => h) (Or.inl ⟨by rfl, ?_⟩) hHeld ?_ ?_
              rotate_left
              ·rintro w' ⟨s0, s1, s2, s3, s4, s5, s6, s7, s8, s9, s10, s11, s12, s13, s14, s15, s16, s17, s18, s19, s20, s21, s22, s23, s24, s25⟩
               go_simp
               with_reducible rfl
              rotate_left
              ·simp only [Act.put, List.setIfInBounds_toArray, List.set_cons_zero, List.set_cons_succ, i64_w, i32_w]
               rfl
              refine pure_ (i := 16) (N := some 130) (v := ?_) (a' := ?_) #[true, true, true, true, true, true, true, true, true, true, true, true, true, true, true, true, true, false, false, true, false, false, false, false, false, false, false, false, false, false, false, false] rfl rfl (any_of HT_.out (by kernel_rfl)) (fun _ _ _ h => h) (Or.inl ⟨by rfl, ?_⟩) ?_ ?_
              rotate_left
              ·intro w'
               go_simp
               with_reducible rfl
              rotate_left
              ·simp only [Act.put, List.setIfInBounds_toArray, List.set_cons_zero, List.set_cons_succ, i64_w, i32_w]
               rfl
              refine pure_ (i := 17) (N := some 131) (v := ?_) (a' := ?_) #[true, true, true, true, true, true, true, true, true, true, true, true, true, true, true, true, true, true, false, true, false, false, false, false, false, false, false, false, false, false, false, false] rfl rfl (any_of HT_.out (by kernel_rfl)) (fun _ _ _ h => h) (Or.inl ⟨by rfl, ?_⟩) ?_ ?_
              rotate_left
              ·intro w'
               go_simp
               with_reducible rfl
              rotate_left
              ·simp only [Act.put, List.setIfInBounds_toArray, List.set_cons_zero, List.set_cons_succ, i64_w, i32_w]
               rfl
              refine take_ (i := 18) (N := some 132) (v := ?_) (a' := ?_) #[true, true, true, true, true, true, true, true, true, true, true, true, true, true, true, true, true, true, true, true, false, false, false, false, false, false, false, false, false, false, false, false] rfl rfl (take_ofW HT_.out HW_.out (by kernel_rfl)) (fun _ _ _ h => h) (Or.inl ⟨by rfl, ?_⟩) hHeld ?_ ?_
              rotate_left
              ·rintro w' ⟨s0, s1, s2, s3, s4, s5, s6, s7, s8, s9, s10, s11, s12, s13, s14, s15, s16, s17, s18, s19, s20, s21, s22, s23, s24, s25⟩
               go_simp
               with_reducible rfl
              rotate_left
              ·simp only [Act.put, List.setIfInBounds_toArray, List.set_cons_zero, List.set_cons_succ, i64_w, i32_w]
               rfl
              refine pure_ (i := 20) (N := some 134) (v := ?_) (a' := ?_) #[true, true, true, true, true, true, true, true, true, true, true, true, true, true, true, true, true, true, true, true, true, false, false, false, false, false, false, false, false, false, false, false] rfl rfl (any_of HT_.out (by kernel_rfl)) (fun _ _ _ h => h) (Or.inl ⟨by rfl, ?_⟩) ?_ ?_
              rotate_left
              ·intro w'
               go_simp
               with_reducible rfl
              rotate_left
              ·simp only [Act.put, List.setIfInBounds_toArray, List.set_cons_zero, List.set_cons_succ, i64_w, i32_w]
               rfl
              refine pure_ (i := 21) (N := some 135) (v := ?_) (a' := ?_) #[true, true, true, true, true, true, true, true, true, true, true, true, true, true, true, true, true, true, true, true, true, true, false, false, false, false, false, false, false, false, false, false] rfl rfl (any_of HT_.out (by kernel_rfl)) (fun _ _ _ h => h) (Or.inl ⟨by rfl, ?_⟩) ?_ ?_
              rotate_left
              ·intro w'
               go_simp
               with_reducible rfl
              rotate_left
              ·simp only [Act.put, List.setIfInBounds_toArray, List.set_cons_zero, List.set_cons_succ, i64_w, i32_w]
               rfl
              refine pure_ (i := 22) (N := some 136) (v := ?_) (a' := ?_) #[true, true, true, true, true, true, true, true, true, true, true, true, true, true, true, true, true, true, true, true, true, true, true, false, false, false, false, false, false, false, false, false] rfl rfl (any_of HT_.out (by kernel_rfl)) (fun _ _ _ h => h) (Or.inl ⟨by rfl, ?_⟩) ?_ ?_
              rotate_left
              ·intro w'
               go_simp
               with_reducible rfl
              rotate_left
              ·simp only [Act.put, List.setIfInBounds_toArray, List.set_cons_zero, List.set_cons_succ, i64_w, i32_w]
               rfl
              refine pure_ (i := 23) (N := some 137) (v := ?_) (a' := ?_) #[true, true, true, true, true, true, true, true, true, true, true, true, true, true, true, true, true, true, true, true, true, true, true, true, false, false, false, false, false, false, false, false] rfl rfl (any_of HT_.out (by kernel_rfl)) (fun _ _ _ h => h) (Or.inl ⟨by rfl, ?_⟩) ?_ ?_
              rotate_left
              ·intro w'
               go_simp
               with_reducible rfl
              rotate_left
              ·simp only [Act.put, List.setIfInBounds_toArray, List.set_cons_zero, List.set_cons_succ, i64_w, i32_w]
               rfl
              refine pure_ (i := 25) (N := some 139) (v := ?_) (a' := ?_) #[true, true, true, true, true, true, true, true, true, true, true, true, true, true, true, true, true, true, true, true, true, true, true, true, false, true, false, false, false, false, false, false] rfl rfl (any_of HT_.out (by kernel_rfl)) (fun _ _ _ h => h) (Or.inl ⟨by rfl, ?_⟩) ?_ ?_
              rotate_left
              ·intro w'
               go_simp
               with_reducible rfl
              rotate_left
              ·simp only [Act.put, List.setIfInBounds_toArray, List.set_cons_zero, List.set_cons_succ, i64_w, i32_w]
               rfl
              refine pure_ (i := 29) (N := some 143) (v := ?_) (a' := ?_) #[true, true, true, true, true, true, true, true, true, true, true, true, true, true, true, true, true, true, true, true, true, true, true, true, false, true, false, false, false, true, false, false] rfl rfl (any_of HT_.out (by kernel_rfl)) (fun _ _ _ h => h) (Or.inl ⟨by rfl, ?_⟩) ?_ ?_
              rotate_left
              ·intro w'
               go_simp
               with_reducible rfl
              rotate_left
              ·simp only [Act.put, List.setIfInBounds_toArray, List.set_cons_zero, List.set_cons_succ, i64_w, i32_w]
               rfl
              refine take_ (i := 24) (N := some 138) (v := ?_) (a' := ?_) #[true, true, true, true, true, true, true, true, true, true, true, true, true, true, true, true, true, true, true, true, true, true, true, true, true, true, false, false, false, true, false, false] rfl rfl (take_ofW HT_.out HW_.out (by kernel_rfl)) (fun _ _ _ h => h) (Or.inl ⟨by rfl, ?_⟩) hHeld ?_ ?_
              rotate_left
              ·rintro w' ⟨s0, s1, s2, s3, s4, s5, s6, s7, s8, s9, s10, s11, s12, s13, s14, s15, s16, s17, s18, s19, s20, s21, s22, s23, s24, s25⟩
               go_simp
               with_reducible rfl
              rotate_left
              ·simp only [Act.put, List.setIfInBounds_toArray, List.set_cons_zero, List.set_cons_succ, i64_w, i32_w]
               rfl
              refine pure_ (i := 26) (N := some 140) (v := ?_) (a' := ?_) #[true, true, true, true, true, true, true, true, true, true, true, true, true, true, true, true, true, true, true, true, true, true, true, true, true, true, true, false, false, true, false, false] rfl rfl (any_of HT_.out (by kernel_rfl)) (fun _ _ _ h => h) (Or.inl ⟨by rfl, ?_⟩) ?_ ?_
              rotate_left
              ·intro w'
               go_simp
               with_reducible rfl
              rotate_left
              ·simp only [Act.put, List.setIfInBounds_toArray, List.set_cons_zero, List.set_cons_succ, i64_w, i32_w]
               rfl
              refine pure_ (i := 27) (N := some 141) (v := ?_) (a' := ?_) #[true, true, true, true, true, true, true, true, true, true, true, true, true, true, true, true, true, true, true, true, true, true, true, true, true, true, true, true, false, true, false, false] rfl rfl (any_of HT_.out (by kernel_rfl)) (fun _ _ _ h => h) (Or.inl ⟨by rfl, ?_⟩) ?_ ?_
              rotate_left
              ·intro w'
               go_simp
               with_reducible rfl
              rotate_left
              ·simp only [Act.put, List.setIfInBounds_toArray, List.set_cons_zero, List.set_cons_succ, i64_w, i32_w]
               rfl
              refine take_ (i := 28) (N := some 142) (v := ?_) (a' := ?_) #[true, true, true, true, true, true, true, true, true, true, true, true, true, true, true, true, true, true, true, true, true, true, true, true, true, true, true, true, true, true, false, false] rfl rfl (take_ofW HT_.out HW_.out (by kernel_rfl)) (fun _ _ _ h => h) (Or.inl ⟨by rfl, ?_⟩) hHeld ?_ ?_
              rotate_left
              ·rintro w' ⟨s0, s1, s2, s3, s4, s5, s6, s7, s8, s9, s10, s11, s12, s13, s14, s15, s16, s17, s18, s19, s20, s21, s22, s23, s24, s25⟩
               go_simp
               with_reducible rfl
              rotate_left
              ·simp only [Act.put, List.setIfInBounds_toArray, List.set_cons_zero, List.set_cons_succ, i64_w, i32_w]
               rfl
              refine pure_ (i := 30) (N := some 144) (v := ?_) (a' := ?_) #[true, true, true, true, true, true, true, true, true, true, true, true, true, true, true, true, true, true, true, true, true, true, true, true, true, true, true, true, true, true, true, false] rfl rfl (any_of HT_.out (by kernel_rfl)) (fun _ _ _ h => h) (Or.inl ⟨by rfl, ?_⟩) ?_ ?_
              rotate_left
              ·intro w'
               go_simp
               with_reducible rfl
              rotate_left
              ·simp only [Act.put, List.setIfInBounds_toArray, List.set_cons_zero, List.set_cons_succ, i64_w, i32_w]
               rfl
              refine pure_ (i := 31) (N := some 145) (v := ?_) (a' := ?_) #[true, true, true, true, true, true, true, true, true, true, true, true, true, true, true, true, true, true, true, true, true, true, true, true, true, true, true, true, true, true, true, true] rfl rfl (any_of HT_.out (by kernel_rfl)) (fun _ _ _ h => h) (Or.inl ⟨by rfl, ?_⟩) ?_ ?_
              rotate_left
              ·intro w'
               go_simp
               with_reducible rfl
              rotate_left
              ·simp only [Act.put, List.setIfInBounds_toArray, List.set_cons_zero, List.set_cons_succ, i64_w, i32_w]
               rfl
              refine done_ (done_of HT_.out (by kernel_rfl)) ?_
              have hnb69 := NB491_474.out; have hnc69 := NB474_491.out
              have hcz70_0 : w68.cell? ⟨gb491, 0, none⟩ = some (.int .i64 t484) := (blk_cell BK491.out 0).trans rfl
              have hcz70_1 : w68.cell? ⟨gb491, 1, none⟩ = some (.int .u64 t485) := (blk_cell BK491.out 1).trans rfl
              have hcz70_2 : w68.cell? ⟨gb491, 2, none⟩ = some (.slice (some ad495) t486.length co31) := (blk_cell BK491.out 2).trans rfl
              have hcz70_3 : w68.cell? ⟨gb491, 3, none⟩ = some (.int .i64 t489) := (blk_cell BK491.out 3).trans rfl
              have hfz70_0 := blk_frozen BK491.out 0; have hfz70_1 := blk_frozen BK491.out 1; have hfz70_2 := blk_frozen BK491.out 2; have hfz70_3 := blk_frozen BK491.out 3
              have p500 : 0 ≤ (x15_4 : Int) := of_decide_eq_true (by first | (with_reducible assumption) | assumption)
              have q500 : x15_4 < (t486.length : Int) := of_decide_eq_true (by first | (with_reducible assumption) | assumption)
              obtain ⟨ad500, A500_3, c500_3, e500, hx500_0, hx500_1, hx500_2, hx500_3, hx500_4, hx500_5, hl500_3, hi500_3⟩ := at_T93 (Kd.S_reads' HO_492002.out).2.2 x15_4 p500 q500
              obtain rfl : ad495 = ad500 := (by injection e500)
              obtain ⟨ce500, hce500, hMe500, hcc500⟩ := Kd.S_get HO_492002.out z93 x15_4 p500 (by first | exact q500 | exact of_decide_eq_true (by first | (with_reducible assumption) | assumption) | (have e_ := (Kd.S_reads' HO_492002.out).1; omega)); obtain ⟨ve500_3, rfl, ge500_3⟩ := k93_openM hMe500; have hv500_3 := hcc500 3 _ rfl; rw [add_field _ _ 3 (by omega)] at hv500_3
              replace hv500_3 := Option.some.inj (hv500_3.symm.trans hx500_3)
              rw [hv500_3] at ge500_3; have HL500_3 := Aside0.mk (show Kd.R (Kd.int .u8) 5 _ _ _ _ ((rd_T93 t486 x15_4).f0.f3) from ge500_3); clear hv500_3 ge500_3; clear hcc500 hce500; have HR500_3 := Aside0.mk hi500_3; have HC500_3 := Aside0.mk hl500_3; clear hi500_3 hl500_3
              replace p500 := eq_true p500
              replace q500 := eq_true q500
              try go_wp2
              go_roundg k4
              case measure => have := HJ5.out; have := HK2.out; have := HJ22.out; have := HK4.out; omega
              case rel => exact ⟨((rd_T93 t486 x15_4).f2), (wrap64 (x15_4 + 1)), (by first | rfl | (simp; done) | (simp [*]; done)), (by first | rfl | (simp; done) | (simp [*]; done)), H', ⟨by have := HJ5.out; have := HK2.out; have := HJ22.out; have := HK4.out; omega⟩, ⟨by (with_reducible repeat (first | apply Kd.R_alloc | apply Kd.R_drewN | apply Kd.R_drew)); exact HO_8.out⟩, ⟨by (with_reducible repeat (first | apply Kd.S_alloc | apply Kd.S_drewN | apply Kd.S_drew)); exact HO_492002.out⟩, ⟨by (with_reducible repeat (first | refine blk_drewN ?_ _ | refine blk_drew ?_ | refine blk_alloc ?_ _)); exact BK474.out⟩, ⟨by (with_reducible repeat (first | refine blk_drewN ?_ _ | refine blk_drew ?_ | refine blk_alloc ?_ _)); exact BK491.out⟩, ⟨by repeat (first | (with_reducible first | exact HB.out | apply below_alloc | apply pw_below_drewN | apply below_drew1 | refine below_set ?_ GE474.out | refine below_set ?_ GE491.out) | exact HB.out)⟩⟩
             rw [if_neg c60] at H
             have c60b0 : decide (x15_4 < (l1.length : Int)) = false := decide_eq_false c60
             clear c60
             by_cases c71 : (wrap64 ((t479.length : Int) + 1)) = 0
             ·rw [if_pos c71] at H
              exact absurd H (by simp)
             rw [if_neg c71] at H
             have c71b0 : ((wrap64 ((t479.length : Int) + 1)) == 0) = false := beq_eq_false_iff_ne.mpr c71
             have c71b1 : ((wrap64 ((t479.length : Int) + 1)) != 0) = true := bne_iff_ne.mpr c71
             obtain ⟨ji72, hji72⟩ : ∃ j_ : Int, (Int.tmod a2 (wrap64 ((t479.length : Int) + 1))) = j_ := ⟨_, rfl⟩
             replace H : (if 0 ≤ (ji72) then (if (ji72) ≤ (t479.length : Int) then ((seg_Read.f k4 (t479.take ((ji72) : Int).toNat)).bind fun bt505 => (if (ji72) < 20 then ((tiklaw16_first.f k4).bind fun t513 => (if t513 = true then (if bt505.2.2.2.2 = 2 then (some ((bt505.2.2.1.length : Int) == 0)) else (some false)) else (some false))) else (if bt505.2.2.2.2 = 0 then (if bt505.2.2.2.1 > (ji72) then (tiklaw16_SegBack.j4 k4 l1 ji72 true t484 t485 t486 t489 bt505.1 bt505.2.1 bt505.2.2.1 bt505.2.2.2.1) else (tiklaw16_SegBack.j4 k4 l1 ji72 (decide ((bt505.2.2.1.length : Int) > (l1.length : Int))) t484 t485 t486 t489 bt505.1 bt505.2.1 bt505.2.2.1 bt505.2.2.2.1)) else (tiklaw16_SegBack.j4 k4 l1 ji72 true t484 t485 t486 t489 bt505.1 bt505.2.1 bt505.2.2.1 bt505.2.2.2.1)))) else (none)) else (none)) = some r := by first | (rw [hji72] at H; exact H) | (simp only [hji72] at H ⊢; exact H)
             by_cases c73 : 0 ≤ (ji72)
             rotate_left
             ·rw [if_neg c73] at H
              exact absurd H (by simp)
             rw [if_pos c73] at H
             have c73b0 := eq_true c73
             have c73b1 : decide (0 ≤ (ji72)) = true := decide_eq_true c73
             clear c73
             by_cases c74 : (ji72) ≤ (t479.length : Int)
             rotate_left
             ·rw [if_neg c74] at H
              exact absurd H (by simp)
             rw [if_pos c74] at H
             have c74b0 := eq_true c74
             have c74b1 : decide ((ji72) ≤ (t479.length : Int)) = true := decide_eq_true c74
             clear c74
             obtain ⟨y501, hy501⟩ : ∃ y_ : List Int, y_ = (t479.take ((ji72) : Int).toNat) := ⟨_, rfl⟩
             replace H : ((seg_Read.f k4 y501).bind fun bt505 => (if (ji72) < 20 then ((tiklaw16_first.f k4).bind fun t513 => (if t513 = true then (if bt505.2.2.2.2 = 2 then (some ((bt505.2.2.1.length : Int) == 0)) else (some false)) else (some false))) else (if bt505.2.2.2.2 = 0 then (if bt505.2.2.2.1 > (ji72) then (tiklaw16_SegBack.j4 k4 l1 ji72 true t484 t485 t486 t489 bt505.1 bt505.2.1 bt505.2.2.1 bt505.2.2.2.1) else (tiklaw16_SegBack.j4 k4 l1 ji72 (decide ((bt505.2.2.1.length : Int) > (l1.length : Int))) t484 t485 t486 t489 bt505.1 bt505.2.1 bt505.2.2.1 bt505.2.2.2.1)) else (tiklaw16_SegBack.j4 k4 l1 ji72 true t484 t485 t486 t489 bt505.1 bt505.2.1 bt505.2.2.1 bt505.2.2.2.1)))) = some r := by first | (rw [hy501]; with_reducible exact H) | (have H2_ := (Option.bind_some _ _).symm.trans H; rw [hy501]; with_reducible exact H2_) | (have H2_ := (Option.bind_some _ _).symm.trans H; with_reducible exact H2_) | with_reducible exact H | (rw [hy501]; exact H) | exact H
             have Ny501 := Aside0.mk hy501; clear hy501
             replace H := Option.bind_eq_some_iff.mp H
             obtain ⟨⟨t505, t506, t507, t510, t511⟩, A750, H⟩ := H
             replace H : (if (ji72) < 20 then ((tiklaw16_first.f k4).bind fun t513 => (if t513 = true then (if t511 = 2 then (some ((t507.length : Int) == 0)) else (some false)) else (some false))) else (if t511 = 0 then (if t510 > (ji72) then (tiklaw16_SegBack.j4 k4 l1 ji72 true t484 t485 t486 t489 t505 t506 t507 t510) else (tiklaw16_SegBack.j4 k4 l1 ji72 (decide ((t507.length : Int) > (l1.length : Int))) t484 t485 t486 t489 t505 t506 t507 t510)) else (tiklaw16_SegBack.j4 k4 l1 ji72 true t484 t485 t486 t489 t505 t506 t507 t510))) = some r := H
             have A75 := Aside0.mk A750; clear A750
             by_cases c76 : (ji72) < 20
             ·rw [if_pos c76] at H
              have c76b0 : decide ((ji72) < 20) = true := decide_eq_true c76
              clear c76
              replace H := Option.bind_eq_some_iff.mp H
              obtain ⟨t513, A770, H⟩ := H
              replace H : (if t513 = true then (if t511 = 2 then (some ((t507.length : Int) == 0)) else (some false)) else (some false)) = some r := H
              have A77 := Aside0.mk A770; clear A770
              by_cases c78 : t513 = true
              rotate_left
              ·replace c78 := Bool.eq_false_iff.mpr c78
               subst c78
               have H1 : (some false) = some r := by rw [if_neg (show ¬ (false = true) by decide)] at H; exact H
               clear H; have H := H1; clear H1
               exact absurd ((Option.some.inj H).trans hr_.out) (by simp)
              subst c78
              have H1 : (if t511 = 2 then (some ((t507.length : Int) == 0)) else (some false)) = some r := by rw [if_pos rfl] at H; exact H
              clear H; have H := H1; clear H1
              by_cases c79 : t511 = 2
              rotate_left
              ·rw [if_neg c79] at H
               have c79b0 : (t511 == 2) = false := beq_eq_false_iff_ne.mpr c79
               have c79b1 : (t511 != 2) = true := bne_iff_ne.mpr c79
               exact absurd ((Option.some.inj H).trans hr_.out) (by simp)
              rw [if_pos c79] at H
              have c79b0 : (t511 == 2) = true := beq_iff_eq.mpr c79
              have c79b1 : (t511 != 2) = false := bne_eq_false_iff_eq.mpr c79
              clear c79
              obtain rfl := Option.some.inj H
              have q80 : ((ji72) : Int) ≤ ((t479.length : Int) : Int) := of_decide_eq_true (by first | (with_reducible assumption) | assumption)
              obtain ⟨i080, hi080, _, hsz80, _⟩ := info_parts info5
              have hroom80 : t479.length ≤ co26 := (Kd.R_reads' HO_8.out).2.1
              have hC80 : Kd.C (Kd.int .u8) _ Ao26 t479.length t479 := (Kd.R_reads' HO_8.out).2.2
              have hcut80 := cut_to (P := Tryd.prog) 64 5 .i64 Tryd.underlying64 hi080 Ao26 t479.length co26 (ji72) (of_decide_eq_true (by first | (with_reducible assumption) | assumption)) q80 hroom80; have hr80 := Kd.C_take (m := ((ji72) : Int).toNat) hC80 (by omega)
              have hy80 : y501.length = ((ji72) : Int).toNat := (by rw [Ny501.out, List.length_take]; omega)
              rw [← Ny501.out] at hr80; rw [← hy80] at hcut80; have HR504 := Aside0.mk hr80; have HC504 := Aside0.mk (show y501.length ≤ co26 from by omega); clear hr80 hC80 hroom80 hi080 hsz80; have KY80 := Aside0.mk hy80; clear hy80; have KL80 := Aside0.mk (show ((ji72) : Int).toNat ≤ t479.length from by omega)
              replace q80 := eq_true q80
              go_wp2_with (first | ((with_reducible refine gate_callee (f := 34) rfl ?_); refine goesL_ (some 161) rfl rfl Tryd.func34 (by kernel_rfl) rfl #[.slice Ao26 y501.length co26] rfl (by (try simp only [List.map_toArray, List.map_cons, List.map_nil]); first | done | rfl | (simp only [List.length_drop, List.length_take]; rfl)) ?_; (with_reducible refine (seg_Read.calls k4 _ _ y501 t505 t506 t507 t510 t511 _ ?side1 ?side2 A75.out).mono ?_); (case side1 => repeat (first | exact (by repeat (first | (with_reducible exact HR504.out) | (with_reducible refine Kd.C_alloc ?_ _) | (with_reducible refine Kd.C_drewN ?_ _) | (with_reducible refine Kd.C_drew ?_) | exact HR504.out)) | (with_reducible refine Kd.C_alloc ?_ _) | (with_reducible refine Kd.C_drewN ?_ _) | (with_reducible refine Kd.C_drew ?_))); (case side2 => exact HC504.out); rintro e w81 ⟨v508, rfl, ho0, hb⟩; refine ⟨_, rfl, ?_⟩; have n0_ := Aside0.mk (Kd.R_below (by (with_reducible repeat (first | apply Kd.R_alloc | apply Kd.R_drewN | apply Kd.R_drew)); exact HO_8.out) hb); have n1_ := Aside0.mk (Kd.S_elder' (by (with_reducible repeat (first | apply Kd.S_alloc | apply Kd.S_drewN | apply Kd.S_drew)); exact HO_492002.out) (Kd.S_base ho0) hb); have n2_ := Aside0.mk (Kd.S_lower (Kd.S_new' (Kd.S_new' ho0 (Kd.R_lt (by (with_reducible repeat (first | apply Kd.R_alloc | apply Kd.R_drewN | apply Kd.R_drew)); exact HO_8.out))) (Kd.S_lt (by (with_reducible repeat (first | apply Kd.S_alloc | apply Kd.S_drewN | apply Kd.S_drew)); exact HO_492002.out))) (below_size (by repeat (first | (with_reducible first | exact HB.out | apply below_alloc | apply pw_below_drewN | apply below_drew1 | refine below_set ?_ GE474.out | refine below_set ?_ GE491.out) | exact HB.out)))); have n3_ := Aside0.mk (blk_below (g := gb474) (o := .cells #[.int .i64 a0_0, .int .u64 a0_1] 63 (0, 0)) (by (with_reducible repeat (first | refine blk_drewN ?_ _ | refine blk_drew ?_ | refine blk_alloc ?_ _)); exact BK474.out) hb); have n4_ := Aside0.mk (blk_below (g := gb491) (o := .cells #[.int .i64 t484, .int .u64 t485, .slice Ao31 t486.length co31, .int .i64 t489] 72 (0, 0)) (by (with_reducible repeat (first | refine blk_drewN ?_ _ | refine blk_drew ?_ | refine blk_alloc ?_ _)); exact BK491.out) hb); have n5_ := Aside0.mk (Kd.C_below (by repeat (first | (with_reducible exact HR504.out) | (with_reducible refine Kd.C_alloc ?_ _) | (with_reducible refine Kd.C_drewN ?_ _) | (with_reducible refine Kd.C_drew ?_) | exact HR504.out)) hb); have n6_ := Aside0.mk (below_step (by repeat (first | (with_reducible first | exact HB.out | apply below_alloc | apply pw_below_drewN | apply below_drew1 | refine below_set ?_ GE474.out | refine below_set ?_ GE491.out) | exact HB.out)) hb); clear HO_8; clear HO_492002; clear BK474; clear BK491; clear HR504; clear HB; have HO_8 := n0_; have HO_492002 := n1_; have HO509 := n2_; have BK474 := n3_; have BK491 := n4_; have HR504 := n5_; have HB := n6_; clear n0_ n1_ n2_ n3_ n4_ n5_ n6_; (try clear hb); (try clear hb2); (try clear hk); (try clear hi); (try clear ho0)) | ((with_reducible refine gate_dst (N := 17) rfl ?_); (try (refine gate_guard (by rfl) ?_; dsimp only)); refine box_event ?hg (N := 17) ?hd (cs := #[.int .i64 0, .int .u64 0, .slice none 0 0, .int .i64 0]) (t := 72) ?hr ?_; (case hd => rfl); (case hg => rfl); (case hr => first | (go_simp; done) | (go_simp; rfl)); intro gb512 hg w82 hbox hb; have n0_ := Aside0.mk (Kd.R_below (by (with_reducible repeat (first | apply Kd.R_alloc | apply Kd.R_drewN | apply Kd.R_drew)); exact HO_8.out) hb); have n1_ := Aside0.mk (Kd.S_below (by (with_reducible repeat (first | apply Kd.S_alloc | apply Kd.S_drewN | apply Kd.S_drew)); exact HO_492002.out) hb); have n2_ := Aside0.mk (Kd.S_below (by (with_reducible repeat (first | apply Kd.S_alloc | apply Kd.S_drewN | apply Kd.S_drew)); exact HO509.out) hb); have n3_ := Aside0.mk (blk_below (g := gb474) (o := .cells #[.int .i64 a0_0, .int .u64 a0_1] 63 (0, 0)) (by (with_reducible repeat (first | refine blk_drewN ?_ _ | refine blk_drew ?_ | refine blk_alloc ?_ _)); exact BK474.out) hb); have n4_ := Aside0.mk (blk_below (g := gb491) (o := .cells #[.int .i64 t484, .int .u64 t485, .slice Ao31 t486.length co31, .int .i64 t489] 72 (0, 0)) (by (with_reducible repeat (first | refine blk_drewN ?_ _ | refine blk_drew ?_ | refine blk_alloc ?_ _)); exact BK491.out) hb); have n5_ := Aside0.mk (Kd.C_below (by repeat (first | (with_reducible exact HR504.out) | (with_reducible refine Kd.C_alloc ?_ _) | (with_reducible refine Kd.C_drewN ?_ _) | (with_reducible refine Kd.C_drew ?_) | exact HR504.out)) hb); have n6_ := Aside0.mk (below_step (by repeat (first | (with_reducible first | exact HB.out | apply below_alloc | apply pw_below_drewN | apply below_drew1 | refine below_set ?_ GE474.out | refine below_set ?_ GE491.out) | exact HB.out)) hb); have n7_ := Aside0.mk (hbox); have n8_ := Aside0.mk ((by rw [hg]; exact (below_size (by repeat (first | (with_reducible first | exact HB.out | apply below_alloc | apply pw_below_drewN | apply below_drew1 | refine below_set ?_ GE474.out | refine below_set ?_ GE491.out) | exact HB.out))) : w.heap.size ≤ gb512)); have n9_ := Aside0.mk ((by rw [hg]; exact (below_size (by repeat (first | (with_reducible first | exact HB.out | apply below_alloc | apply pw_below_drewN | apply below_drew1 | refine below_set ?_ GE474.out | refine below_set ?_ GE491.out) | exact HB.out))) : w.heap.size ≤ gb512)); have n10_ := Aside0.mk ((by rw [hg]; exact Nat.ne_of_lt (blk_lt (g := gb474) (o := .cells #[.int .i64 a0_0, .int .u64 a0_1] 63 (0, 0)) (by (with_reducible repeat (first | refine blk_drewN ?_ _ | refine blk_drew ?_ | refine blk_alloc ?_ _)); exact BK474.out)) : gb474 ≠ gb512)); have n11_ := Aside0.mk ((by rw [hg]; exact Nat.ne_of_gt (blk_lt (g := gb474) (o := .cells #[.int .i64 a0_0, .int .u64 a0_1] 63 (0, 0)) (by (with_reducible repeat (first | refine blk_drewN ?_ _ | refine blk_drew ?_ | refine blk_alloc ?_ _)); exact BK474.out)) : gb512 ≠ gb474)); have n12_ := Aside0.mk ((by rw [hg]; exact Nat.ne_of_lt (blk_lt (g := gb491) (o := .cells #[.int .i64 t484, .int .u64 t485, .slice Ao31 t486.length co31, .int .i64 t489] 72 (0, 0)) (by (with_reducible repeat (first | refine blk_drewN ?_ _ | refine blk_drew ?_ | refine blk_alloc ?_ _)); exact BK491.out)) : gb491 ≠ gb512)); have n13_ := Aside0.mk ((by rw [hg]; exact Nat.ne_of_gt (blk_lt (g := gb491) (o := .cells #[.int .i64 t484, .int .u64 t485, .slice Ao31 t486.length co31, .int .i64 t489] 72 (0, 0)) (by (with_reducible repeat (first | refine blk_drewN ?_ _ | refine blk_drew ?_ | refine blk_alloc ?_ _)); exact BK491.out)) : gb512 ≠ gb491)); clear HO_8; clear HO_492002; clear HO509; clear BK474; clear BK491; clear HR504; clear HB; have HO_8 := n0_; have HO_492002 := n1_; have HO509 := n2_; have BK474 := n3_; have BK491 := n4_; have HR504 := n5_; have HB := n6_; have BK512 := n7_; have GW512 := n8_; have GE512 := n9_; have NB474_512 := n10_; have NB512_474 := n11_; have NB491_512 := n12_; have NB512_491 := n13_; clear n0_ n1_ n2_ n3_ n4_ n5_ n6_ n7_ n8_ n9_ n10_ n11_ n12_ n13_; clear hb hbox hg; have hnb83 := NB512_474.out; have hnc83 := NB474_512.out; have hnb84 := NB512_491.out; have hnc84 := NB491_512.out; have hcz85_0 : w82.cell? ⟨gb512, 0, none⟩ = some (.int .i64 0) := (blk_cell BK512.out 0).trans rfl; have hcz85_1 : w82.cell? ⟨gb512, 1, none⟩ = some (.int .u64 0) := (blk_cell BK512.out 1).trans rfl; have hcz85_2 : w82.cell? ⟨gb512, 2, none⟩ = some (.slice none 0 0) := (blk_cell BK512.out 2).trans rfl; have hcz85_3 : w82.cell? ⟨gb512, 3, none⟩ = some (.int .i64 0) := (blk_cell BK512.out 3).trans rfl; have hfz85_0 := blk_frozen BK512.out 0; have hfz85_1 := blk_frozen BK512.out 1; have hfz85_2 := blk_frozen BK512.out 2; have hfz85_3 := blk_frozen BK512.out 3; obtain ⟨Ao86, co86, eo86⟩ := Kd.S_slice HO509.out; subst eo86) | ((with_reducible refine gate_callee (f := 29) rfl ?_); refine goesL_ (some 166) rfl rfl Tryd.func29 (by kernel_rfl) rfl #[] rfl (by (try simp only [List.map_toArray, List.map_cons, List.map_nil]); first | done | rfl | (simp only [List.length_drop, List.length_take]; rfl)) ?_; (with_reducible refine (tiklaw16_first.calls k4  true _ ?side1 A77.out).mono ?_); (case side1 => first | (with_reducible exact HT.out) | exact tabAt HT.out (by repeat (first | (with_reducible first | exact HB.out | apply below_alloc | apply pw_below_drewN | apply below_drew1 | refine below_set ?_ GE474.out | refine below_set ?_ GE491.out | refine below_set ?_ GE512.out) | exact HB.out))); rintro e w87 ⟨rfl, hb⟩; refine ⟨_, rfl, ?_⟩; have n0_ := Aside0.mk (Kd.R_below (by (with_reducible repeat (first | apply Kd.R_alloc | apply Kd.R_drewN | apply Kd.R_drew)); exact (Kd.R_mono (Kd.R_far (p := ⟨gb512, 3, none⟩) (Kd.R_far (p := ⟨gb512, 2, none⟩) (Kd.R_far (p := ⟨gb512, 1, none⟩) (Kd.R_far (p := ⟨gb512, 0, none⟩) (Kd.R_types HO_8.out BK512.out (by decide)) (fun _ hk => hk.2) (.int .i64 t505)) (fun _ hk => hk.2) (.int .u64 t506)) (fun _ hk => hk.2) (.slice Ao86 t507.length co86)) (fun _ hk => hk.2) (.int .i64 t510)) (fun _ h_ => h_.1))) hb); have n1_ := Aside0.mk (Kd.S_below (by (with_reducible repeat (first | apply Kd.S_alloc | apply Kd.S_drewN | apply Kd.S_drew)); exact (Kd.S_mono (Kd.S_far (p := ⟨gb512, 3, none⟩) (Kd.S_far (p := ⟨gb512, 2, none⟩) (Kd.S_far (p := ⟨gb512, 1, none⟩) (Kd.S_far (p := ⟨gb512, 0, none⟩) (Kd.S_types HO_492002.out BK512.out (by decide)) (fun _ hk => hk.2) (.int .i64 t505)) (fun _ hk => hk.2) (.int .u64 t506)) (fun _ hk => hk.2) (.slice Ao86 t507.length co86)) (fun _ hk => hk.2) (.int .i64 t510)) (fun _ h_ => h_.1))) hb); have n2_ := Aside0.mk (Kd.S_below (by (with_reducible repeat (first | apply Kd.S_alloc | apply Kd.S_drewN | apply Kd.S_drew)); exact (Kd.S_mono (Kd.S_far (p := ⟨gb512, 3, none⟩) (Kd.S_far (p := ⟨gb512, 2, none⟩) (Kd.S_far (p := ⟨gb512, 1, none⟩) (Kd.S_far (p := ⟨gb512, 0, none⟩) (Kd.S_types HO509.out BK512.out (by decide)) (fun _ hk => hk.2) (.int .i64 t505)) (fun _ hk => hk.2) (.int .u64 t506)) (fun _ hk => hk.2) (.slice Ao86 t507.length co86)) (fun _ hk => hk.2) (.int .i64 t510)) (fun _ h_ => h_.1))) hb); have n3_ := Aside0.mk (blk_below (g := gb474) (o := .cells #[.int .i64 a0_0, .int .u64 a0_1] 63 (0, 0)) (by (with_reducible repeat (first | refine blk_drewN ?_ _ | refine blk_drew ?_ | refine blk_alloc ?_ _)); refine blk_far ?_ NB474_512.out _; (with_reducible repeat (first | refine blk_drewN ?_ _ | refine blk_drew ?_ | refine blk_alloc ?_ _)); refine blk_far ?_ NB474_512.out _; (with_reducible repeat (first | refine blk_drewN ?_ _ | refine blk_drew ?_ | refine blk_alloc ?_ _)); refine blk_far ?_ NB474_512.out _; (with_reducible repeat (first | refine blk_drewN ?_ _ | refine blk_drew ?_ | refine blk_alloc ?_ _)); refine blk_far ?_ NB474_512.out _; (with_reducible repeat (first | refine blk_drewN ?_ _ | refine blk_drew ?_ | refine blk_alloc ?_ _)); exact BK474.out) hb); have n4_ := Aside0.mk (blk_below (g := gb491) (o := .cells #[.int .i64 t484, .int .u64 t485, .slice Ao31 t486.length co31, .int .i64 t489] 72 (0, 0)) (by (with_reducible repeat (first | refine blk_drewN ?_ _ | refine blk_drew ?_ | refine blk_alloc ?_ _)); refine blk_far ?_ NB491_512.out _; (with_reducible repeat (first | refine blk_drewN ?_ _ | refine blk_drew ?_ | refine blk_alloc ?_ _)); refine blk_far ?_ NB491_512.out _; (with_reducible repeat (first | refine blk_drewN ?_ _ | refine blk_drew ?_ | refine blk_alloc ?_ _)); refine blk_far ?_ NB491_512.out _; (with_reducible repeat (first | refine blk_drewN ?_ _ | refine blk_drew ?_ | refine blk_alloc ?_ _)); refine blk_far ?_ NB491_512.out _; (with_reducible repeat (first | refine blk_drewN ?_ _ | refine blk_drew ?_ | refine blk_alloc ?_ _)); exact BK491.out) hb); have n5_ := Aside0.mk (blk_below (g := gb512) (o := .cells #[.int .i64 t505, .int .u64 t506, .slice Ao86 t507.length co86, .int .i64 t510] 72 (0, 0)) (by (with_reducible repeat (first | refine blk_drewN ?_ _ | refine blk_drew ?_ | refine blk_alloc ?_ _)); refine blk_put (cs := #[.int .i64 t505, .int .u64 t506, .slice Ao86 t507.length co86, .int .i64 0]) ?_ 3 _ rfl; (with_reducible repeat (first | refine blk_drewN ?_ _ | refine blk_drew ?_ | refine blk_alloc ?_ _)); refine blk_put (cs := #[.int .i64 t505, .int .u64 t506, .slice none 0 0, .int .i64 0]) ?_ 2 _ rfl; (with_reducible repeat (first | refine blk_drewN ?_ _ | refine blk_drew ?_ | refine blk_alloc ?_ _)); refine blk_put (cs := #[.int .i64 t505, .int .u64 0, .slice none 0 0, .int .i64 0]) ?_ 1 _ rfl; (with_reducible repeat (first | refine blk_drewN ?_ _ | refine blk_drew ?_ | refine blk_alloc ?_ _)); refine blk_put (cs := #[.int .i64 0, .int .u64 0, .slice none 0 0, .int .i64 0]) ?_ 0 _ rfl; (with_reducible repeat (first | refine blk_drewN ?_ _ | refine blk_drew ?_ | refine blk_alloc ?_ _)); exact BK512.out) hb); have n6_ := Aside0.mk (below_step (by repeat (first | (with_reducible first | exact HB.out | apply below_alloc | apply pw_below_drewN | apply below_drew1 | refine below_set ?_ GE474.out | refine below_set ?_ GE491.out | refine below_set ?_ GE512.out) | exact HB.out)) hb); clear HO_8; clear HO_492002; clear HO509; clear BK474; clear BK491; clear BK512; clear HB; have HO_8 := n0_; have HO_492002 := n1_; have HO509 := n2_; have BK474 := n3_; have BK491 := n4_; have BK512 := n5_; have HB := n6_; clear n0_ n1_ n2_ n3_ n4_ n5_ n6_; (try clear hb); (try clear hb2); (try clear hk); (try clear hi); have hcz88_0 : w87.cell? ⟨gb512, 0, none⟩ = some (.int .i64 t505) := (blk_cell BK512.out 0).trans rfl; have hcz88_1 : w87.cell? ⟨gb512, 1, none⟩ = some (.int .u64 t506) := (blk_cell BK512.out 1).trans rfl; have hcz88_2 : w87.cell? ⟨gb512, 2, none⟩ = some (.slice Ao86 t507.length co86) := (blk_cell BK512.out 2).trans rfl; have hcz88_3 : w87.cell? ⟨gb512, 3, none⟩ = some (.int .i64 t510) := (blk_cell BK512.out 3).trans rfl; have hfz88_0 := blk_frozen BK512.out 0; have hfz88_1 := blk_frozen BK512.out 1; have hfz88_2 := blk_frozen BK512.out 2; have hfz88_3 := blk_frozen BK512.out 3))
              go_ret
              exact ⟨by first | rfl | (simp [errW_none, errW_some] <;> rfl) | (simp only [← hji72]; first | rfl | (simp [errW_none, errW_some] <;> rfl)) | (simp [*, errW_none, errW_some] <;> rfl), by repeat (first | (with_reducible first | exact HB.out | apply below_alloc | apply pw_below_drewN | apply below_drew1 | refine below_set ?_ GE474.out | refine below_set ?_ GE491.out | refine below_set ?_ GE512.out) | exact HB.out)⟩
             rw [if_neg c76] at H
             have c76b0 : decide ((ji72) < 20) = false := decide_eq_false c76
             clear c76; have HC89 := Aside0.mk H; clear H
             have q90 : ((ji72) : Int) ≤ ((t479.length : Int) : Int) := of_decide_eq_true (by first | (with_reducible assumption) | assumption)
             obtain ⟨i090, hi090, _, hsz90, _⟩ := info_parts info5
             have hroom90 : t479.length ≤ co26 := (Kd.R_reads' HO_8.out).2.1
             have hC90 : Kd.C (Kd.int .u8) _ Ao26 t479.length t479 := (Kd.R_reads' HO_8.out).2.2
             have hcut90 := cut_to (P := Tryd.prog) 64 5 .i64 Tryd.underlying64 hi090 Ao26 t479.length co26 (ji72) (of_decide_eq_true (by first | (with_reducible assumption) | assumption)) q90 hroom90; have hr90 := Kd.C_take (m := ((ji72) : Int).toNat) hC90 (by omega)
             have hy90 : y501.length = ((ji72) : Int).toNat := (by rw [Ny501.out, List.length_take]; omega)
             rw [← Ny501.out] at hr90; rw [← hy90] at hcut90; have HR504 := Aside0.mk hr90; have HC504 := Aside0.mk (show y501.length ≤ co26 from by omega); clear hr90 hC90 hroom90 hi090 hsz90; have KY90 := Aside0.mk hy90; clear hy90; have KL90 := Aside0.mk (show ((ji72) : Int).toNat ≤ t479.length from by omega)
             replace q90 := eq_true q90
             go_upto_region 28 with (first | ((with_reducible refine gate_callee (f := 34) rfl ?_); refine goesL_ (some 161) rfl rfl Tryd.func34 (by kernel_rfl) rfl #[.slice Ao26 y501.length co26] rfl (by (try simp only [List.map_toArray, List.map_cons, List.map_nil]); first | done | rfl | (simp only [List.length_drop, List.length_take]; rfl)) ?_; (with_reducible refine (seg_Read.calls k4 _ _ y501 t505 t506 t507 t510 t511 _ ?side1 ?side2 A75.out).mono ?_); (case side1 => repeat (first | exact (by repeat (first | (with_reducible exact HR504.out) | (with_reducible refine Kd.C_alloc ?_ _) | (with_reducible refine Kd.C_drewN ?_ _) | (with_reducible refine Kd.C_drew ?_) | exact HR504.out)) | (with_reducible refine Kd.C_alloc ?_ _) | (with_reducible refine Kd.C_drewN ?_ _) | (with_reducible refine Kd.C_drew ?_))); (case side2 => exact HC504.out); rintro e w91 ⟨v508, rfl, ho0, hb⟩; refine ⟨_, rfl, ?_⟩; have n0_ := Aside0.mk (Kd.R_below (by (with_reducible repeat (first | apply Kd.R_alloc | apply Kd.R_drewN | apply Kd.R_drew)); exact HO_8.out) hb); have n1_ := Aside0.mk (Kd.S_elder' (by (with_reducible repeat (first | apply Kd.S_alloc | apply Kd.S_drewN | apply Kd.S_drew)); exact HO_492002.out) (Kd.S_base ho0) hb); have n2_ := Aside0.mk (Kd.S_lower (Kd.S_new' (Kd.S_new' ho0 (Kd.R_lt (by (with_reducible repeat (first | apply Kd.R_alloc | apply Kd.R_drewN | apply Kd.R_drew)); exact HO_8.out))) (Kd.S_lt (by (with_reducible repeat (first | apply Kd.S_alloc | apply Kd.S_drewN | apply Kd.S_drew)); exact HO_492002.out))) (below_size (by repeat (first | (with_reducible first | exact HB.out | apply below_alloc | apply pw_below_drewN | apply below_drew1 | refine below_set ?_ GE474.out | refine below_set ?_ GE491.out) | exact HB.out)))); have n3_ := Aside0.mk (blk_below (g := gb474) (o := .cells #[.int .i64 a0_0, .int .u64 a0_1] 63 (0, 0)) (by (with_reducible repeat (first | refine blk_drewN ?_ _ | refine blk_drew ?_ | refine blk_alloc ?_ _)); exact BK474.out) hb); have n4_ := Aside0.mk (blk_below (g := gb491) (o := .cells #[.int .i64 t484, .int .u64 t485, .slice Ao31 t486.length co31, .int .i64 t489] 72 (0, 0)) (by (with_reducible repeat (first | refine blk_drewN ?_ _ | refine blk_drew ?_ | refine blk_alloc ?_ _)); exact BK491.out) hb); have n5_ := Aside0.mk (Kd.C_below (by repeat (first | (with_reducible exact HR504.out) | (with_reducible refine Kd.C_alloc ?_ _) | (with_reducible refine Kd.C_drewN ?_ _) | (with_reducible refine Kd.C_drew ?_) | exact HR504.out)) hb); have n6_ := Aside0.mk (below_step (by repeat (first | (with_reducible first | exact HB.out | apply below_alloc | apply pw_below_drewN | apply below_drew1 | refine below_set ?_ GE474.out | refine below_set ?_ GE491.out) | exact HB.out)) hb); clear HO_8; clear HO_492002; clear BK474; clear BK491; clear HR504; clear HB; have HO_8 := n0_; have HO_492002 := n1_; have HO509 := n2_; have BK474 := n3_; have BK491 := n4_; have HR504 := n5_; have HB := n6_; clear n0_ n1_ n2_ n3_ n4_ n5_ n6_; (try clear hb); (try clear hb2); (try clear hk); (try clear hi); (try clear ho0)) | ((with_reducible refine gate_dst (N := 17) rfl ?_); (try (refine gate_guard (by rfl) ?_; dsimp only)); refine box_event ?hg (N := 17) ?hd (cs := #[.int .i64 0, .int .u64 0, .slice none 0 0, .int .i64 0]) (t := 72) ?hr ?_; (case hd => rfl); (case hg => rfl); (case hr => first | (go_simp; done) | (go_simp; rfl)); intro gb512 hg w92 hbox hb; have n0_ := Aside0.mk (Kd.R_below (by (with_reducible repeat (first | apply Kd.R_alloc | apply Kd.R_drewN | apply Kd.R_drew)); exact HO_8.out) hb); have n1_ := Aside0.mk (Kd.S_below (by (with_reducible repeat (first | apply Kd.S_alloc | apply Kd.S_drewN | apply Kd.S_drew)); exact HO_492002.out) hb); have n2_ := Aside0.mk (Kd.S_below (by (with_reducible repeat (first | apply Kd.S_alloc | apply Kd.S_drewN | apply Kd.S_drew)); exact HO509.out) hb); have n3_ := Aside0.mk (blk_below (g := gb474) (o := .cells #[.int .i64 a0_0, .int .u64 a0_1] 63 (0, 0)) (by (with_reducible repeat (first | refine blk_drewN ?_ _ | refine blk_drew ?_ | refine blk_alloc ?_ _)); exact BK474.out) hb); have n4_ := Aside0.mk (blk_below (g := gb491) (o := .cells #[.int .i64 t484, .int .u64 t485, .slice Ao31 t486.length co31, .int .i64 t489] 72 (0, 0)) (by (with_reducible repeat (first | refine blk_drewN ?_ _ | refine blk_drew ?_ | refine blk_alloc ?_ _)); exact BK491.out) hb); have n5_ := Aside0.mk (below_step (by repeat (first | (with_reducible first | exact HB.out | apply below_alloc | apply pw_below_drewN | apply below_drew1 | refine below_set ?_ GE474.out | refine below_set ?_ GE491.out) | exact HB.out)) hb); have n6_ := Aside0.mk (hbox); have n7_ := Aside0.mk ((by rw [hg]; exact (below_size (by repeat (first | (with_reducible first | exact HB.out | apply below_alloc | apply pw_below_drewN | apply below_drew1 | refine below_set ?_ GE474.out | refine below_set ?_ GE491.out) | exact HB.out))) : w.heap.size ≤ gb512)); have n8_ := Aside0.mk ((by rw [hg]; exact (below_size (by repeat (first | (with_reducible first | exact HB.out | apply below_alloc | apply pw_below_drewN | apply below_drew1 | refine below_set ?_ GE474.out | refine below_set ?_ GE491.out) | exact HB.out))) : w.heap.size ≤ gb512)); have n9_ := Aside0.mk ((by rw [hg]; exact Nat.ne_of_lt (blk_lt (g := gb474) (o := .cells #[.int .i64 a0_0, .int .u64 a0_1] 63 (0, 0)) (by (with_reducible repeat (first | refine blk_drewN ?_ _ | refine blk_drew ?_ | refine blk_alloc ?_ _)); exact BK474.out)) : gb474 ≠ gb512)); have n10_ := Aside0.mk ((by rw [hg]; exact Nat.ne_of_gt (blk_lt (g := gb474) (o := .cells #[.int .i64 a0_0, .int .u64 a0_1] 63 (0, 0)) (by (with_reducible repeat (first | refine blk_drewN ?_ _ | refine blk_drew ?_ | refine blk_alloc ?_ _)); exact BK474.out)) : gb512 ≠ gb474)); have n11_ := Aside0.mk ((by rw [hg]; exact Nat.ne_of_lt (blk_lt (g := gb491) (o := .cells #[.int .i64 t484, .int .u64 t485, .slice Ao31 t486.length co31, .int .i64 t489] 72 (0, 0)) (by (with_reducible repeat (first | refine blk_drewN ?_ _ | refine blk_drew ?_ | refine blk_alloc ?_ _)); exact BK491.out)) : gb491 ≠ gb512)); have n12_ := Aside0.mk ((by rw [hg]; exact Nat.ne_of_gt (blk_lt (g := gb491) (o := .cells #[.int .i64 t484, .int .u64 t485, .slice Ao31 t486.length co31, .int .i64 t489] 72 (0, 0)) (by (with_reducible repeat (first | refine blk_drewN ?_ _ | refine blk_drew ?_ | refine blk_alloc ?_ _)); exact BK491.out)) : gb512 ≠ gb491)); clear HO_8; clear HO_492002; clear HO509; clear BK474; clear BK491; clear HB; have HO_8 := n0_; have HO_492002 := n1_; have HO509 := n2_; have BK474 := n3_; have BK491 := n4_; have HB := n5_; have BK512 := n6_; have GW512 := n7_; have GE512 := n8_; have NB474_512 := n9_; have NB512_474 := n10_; have NB491_512 := n11_; have NB512_491 := n12_; clear n0_ n1_ n2_ n3_ n4_ n5_ n6_ n7_ n8_ n9_ n10_ n11_ n12_; clear hb hbox hg; have hnb93 := NB512_474.out; have hnc93 := NB474_512.out; have hnb94 := NB512_491.out; have hnc94 := NB491_512.out; have hcz95_0 : w92.cell? ⟨gb512, 0, none⟩ = some (.int .i64 0) := (blk_cell BK512.out 0).trans rfl; have hcz95_1 : w92.cell? ⟨gb512, 1, none⟩ = some (.int .u64 0) := (blk_cell BK512.out 1).trans rfl; have hcz95_2 : w92.cell? ⟨gb512, 2, none⟩ = some (.slice none 0 0) := (blk_cell BK512.out 2).trans rfl; have hcz95_3 : w92.cell? ⟨gb512, 3, none⟩ = some (.int .i64 0) := (blk_cell BK512.out 3).trans rfl; have hfz95_0 := blk_frozen BK512.out 0; have hfz95_1 := blk_frozen BK512.out 1; have hfz95_2 := blk_frozen BK512.out 2; have hfz95_3 := blk_frozen BK512.out 3; obtain ⟨Ao96, co96, eo96⟩ := Kd.S_slice HO509.out; subst eo96))
             (try simp only [Act.put, List.setIfInBounds_toArray, List.set_cons_zero, List.set_cons_succ])
             go_cut [192] (fun v192 wc => ∃ (kq : Nat) (x192_88 : Bool), v192 = .bool x192_88 ∧ Aside0 (tiklaw16_SegBack.j4 kq l1 ji72 x192_88 t484 t485 t486 t489 t505 t506 t507 t510 = some r) ∧ Aside0 (kq ≤ k4) ∧ Aside0 (Kd.S k93 93 wc w.heap.size (fun k_ => some k_ ≠ ((.slice Ao96 t507.length co96) : Value).ownBlock) (.slice Ao31 t486.length co31) t486) ∧ Aside0 (Kd.S k93 93 wc w.heap.size (fun k_ => some k_ ≠ ((.slice Ao31 t486.length co31) : Value).ownBlock) (.slice Ao96 t507.length co96) t507) ∧ Aside0 (wc.heap[gb474]? = some (.cells #[.int .i64 a0_0, .int .u64 a0_1] 63 (0, 0))) ∧ Aside0 (wc.heap[gb491]? = some (.cells #[.int .i64 t484, .int .u64 t485, (.slice Ao31 t486.length co31), .int .i64 t489] 72 (0, 0))) ∧ Aside0 (wc.heap[gb512]? = some (.cells #[.int .i64 t505, .int .u64 t506, (.slice Ao96 t507.length co96), .int .i64 t510] 72 (0, 0))) ∧ Aside0 (Below w.heap.size w wc))
             case first =>
              have H := HC89.out; clear HC89
              by_cases c97 : t511 = 0
              rotate_left
              ·rw [if_neg c97] at H
               have c97b0 : (t511 == 0) = false := beq_eq_false_iff_ne.mpr c97
               have c97b1 : (t511 != 0) = true := bne_iff_ne.mpr c97
               (first | rw [c97b0] | (simp only [i64_w, i32_w]; rw [c97b0]) | skip)
               have H' := Aside0.mk H; clear H
               go_wp2
               go_meet
               case rel => exact ⟨_, (true), (by first | rfl | (simp; done) | (simp [*]; done)), H', ⟨by have := HJ5.out; have := HK2.out; have := HJ22.out; have := HK4.out; first | omega | exact Nat.le_refl _⟩, ⟨by (with_reducible repeat (first | apply Kd.S_alloc | apply Kd.S_drewN | apply Kd.S_drew)); exact Kd.S_mono (Kd.S_far (p := ⟨gb512, 3, none⟩) (Kd.S_far (p := ⟨gb512, 2, none⟩) (Kd.S_far (p := ⟨gb512, 1, none⟩) (Kd.S_far (p := ⟨gb512, 0, none⟩) (Kd.S_types HO_492002.out BK512.out (by decide)) (fun _ hk => hk.2) (.int .i64 t505)) (fun _ hk => hk.2) (.int .u64 t506)) (fun _ hk => hk.2) (.slice Ao96 t507.length co96)) (fun _ hk => hk.2) (.int .i64 t510)) (fun _ hk => hk.1.2)⟩, ⟨by (with_reducible repeat (first | apply Kd.S_alloc | apply Kd.S_drewN | apply Kd.S_drew)); exact Kd.S_mono (Kd.S_far (p := ⟨gb512, 3, none⟩) (Kd.S_far (p := ⟨gb512, 2, none⟩) (Kd.S_far (p := ⟨gb512, 1, none⟩) (Kd.S_far (p := ⟨gb512, 0, none⟩) (Kd.S_types HO509.out BK512.out (by decide)) (fun _ hk => hk.2) (.int .i64 t505)) (fun _ hk => hk.2) (.int .u64 t506)) (fun _ hk => hk.2) (.slice Ao96 t507.length co96)) (fun _ hk => hk.2) (.int .i64 t510)) (fun _ hk => hk.1.2)⟩, ⟨by (with_reducible repeat (first | refine blk_drewN ?_ _ | refine blk_drew ?_ | refine blk_alloc ?_ _)); refine blk_far ?_ NB474_512.out _; (with_reducible repeat (first | refine blk_drewN ?_ _ | refine blk_drew ?_ | refine blk_alloc ?_ _)); refine blk_far ?_ NB474_512.out _; (with_reducible repeat (first | refine blk_drewN ?_ _ | refine blk_drew ?_ | refine blk_alloc ?_ _)); refine blk_far ?_ NB474_512.out _; (with_reducible repeat (first | refine blk_drewN ?_ _ | refine blk_drew ?_ | refine blk_alloc ?_ _)); refine blk_far ?_ NB474_512.out _; (with_reducible repeat (first | refine blk_drewN ?_ _ | refine blk_drew ?_ | refine blk_alloc ?_ _)); exact BK474.out⟩, ⟨by (with_reducible repeat (first | refine blk_drewN ?_ _ | refine blk_drew ?_ | refine blk_alloc ?_ _)); refine blk_far ?_ NB491_512.out _; (with_reducible repeat (first | refine blk_drewN ?_ _ | refine blk_drew ?_ | refine blk_alloc ?_ _)); refine blk_far ?_ NB491_512.out _; (with_reducible repeat (first | refine blk_drewN ?_ _ | refine blk_drew ?_ | refine blk_alloc ?_ _)); refine blk_far ?_ NB491_512.out _; (with_reducible repeat (first | refine blk_drewN ?_ _ | refine blk_drew ?_ | refine blk_alloc ?_ _)); refine blk_far ?_ NB491_512.out _; (with_reducible repeat (first | refine blk_drewN ?_ _ | refine blk_drew ?_ | refine blk_alloc ?_ _)); exact BK491.out⟩, ⟨by (with_reducible repeat (first | refine blk_drewN ?_ _ | refine blk_drew ?_ | refine blk_alloc ?_ _)); refine blk_put (cs := #[.int .i64 t505, .int .u64 t506, .slice Ao96 t507.length co96, .int .i64 0]) ?_ 3 _ rfl; (with_reducible repeat (first | refine blk_drewN ?_ _ | refine blk_drew ?_ | refine blk_alloc ?_ _)); refine blk_put (cs := #[.int .i64 t505, .int .u64 t506, .slice none 0 0, .int .i64 0]) ?_ 2 _ rfl; (with_reducible repeat (first | refine blk_drewN ?_ _ | refine blk_drew ?_ | refine blk_alloc ?_ _)); refine blk_put (cs := #[.int .i64 t505, .int .u64 0, .slice none 0 0, .int .i64 0]) ?_ 1 _ rfl; (with_reducible repeat (first | refine blk_drewN ?_ _ | refine blk_drew ?_ | refine blk_alloc ?_ _)); refine blk_put (cs := #[.int .i64 0, .int .u64 0, .slice none 0 0, .int .i64 0]) ?_ 0 _ rfl; (with_reducible repeat (first | refine blk_drewN ?_ _ | refine blk_drew ?_ | refine blk_alloc ?_ _)); exact BK512.out⟩, ⟨by repeat (first | (with_reducible first | exact HB.out | apply below_alloc | apply pw_below_drewN | apply below_drew1 | refine below_set ?_ GE474.out | refine below_set ?_ GE491.out | refine below_set ?_ GE512.out) | exact HB.out)⟩⟩
              rw [if_pos c97] at H
              have c97b0 : (t511 == 0) = true := beq_iff_eq.mpr c97
              have c97b1 : (t511 != 0) = false := bne_eq_false_iff_eq.mpr c97
              clear c97
              (first | rw [c97b0] | (simp only [i64_w, i32_w]; rw [c97b0]) | skip)
              by_cases c98 : t510 > (ji72)
              ·rw [if_pos c98] at H
               have c98b0 : decide ((ji72) < t510) = true := decide_eq_true c98
               clear c98; have H' := Aside0.mk H; clear H; have hnb99 := NB512_474.out; have hnc99 := NB474_512.out; have hnb100 := NB512_491.out; have hnc100 := NB491_512.out
               have hcz101_0 : w92.cell? ⟨gb512, 0, none⟩ = some (.int .i64 0) := (blk_cell BK512.out 0).trans rfl
               have hcz101_1 : w92.cell? ⟨gb512, 1, none⟩ = some (.int .u64 0) := (blk_cell BK512.out 1).trans rfl
               have hcz101_2 : w92.cell? ⟨gb512, 2, none⟩ = some (.slice none 0 0) := (blk_cell BK512.out 2).trans rfl
               have hcz101_3 : w92.cell? ⟨gb512, 3, none⟩ = some (.int .i64 0) := (blk_cell BK512.out 3).trans rfl
               have hfz101_0 := blk_frozen BK512.out 0; have hfz101_1 := blk_frozen BK512.out 1; have hfz101_2 := blk_frozen BK512.out 2; have hfz101_3 := blk_frozen BK512.out 3
               go_wp2
               go_meet
               case rel => exact ⟨_, (true), (by first | rfl | (simp; done) | (simp [*]; done)), H', ⟨by have := HJ5.out; have := HK2.out; have := HJ22.out; have := HK4.out; first | omega | exact Nat.le_refl _⟩, ⟨by (with_reducible repeat (first | apply Kd.S_alloc | apply Kd.S_drewN | apply Kd.S_drew)); exact Kd.S_mono (Kd.S_far (p := ⟨gb512, 3, none⟩) (Kd.S_far (p := ⟨gb512, 2, none⟩) (Kd.S_far (p := ⟨gb512, 1, none⟩) (Kd.S_far (p := ⟨gb512, 0, none⟩) (Kd.S_types HO_492002.out BK512.out (by decide)) (fun _ hk => hk.2) (.int .i64 t505)) (fun _ hk => hk.2) (.int .u64 t506)) (fun _ hk => hk.2) (.slice Ao96 t507.length co96)) (fun _ hk => hk.2) (.int .i64 t510)) (fun _ hk => hk.1.2)⟩, ⟨by (with_reducible repeat (first | apply Kd.S_alloc | apply Kd.S_drewN | apply Kd.S_drew)); exact Kd.S_mono (Kd.S_far (p := ⟨gb512, 3, none⟩) (Kd.S_far (p := ⟨gb512, 2, none⟩) (Kd.S_far (p := ⟨gb512, 1, none⟩) (Kd.S_far (p := ⟨gb512, 0, none⟩) (Kd.S_types HO509.out BK512.out (by decide)) (fun _ hk => hk.2) (.int .i64 t505)) (fun _ hk => hk.2) (.int .u64 t506)) (fun _ hk => hk.2) (.slice Ao96 t507.length co96)) (fun _ hk => hk.2) (.int .i64 t510)) (fun _ hk => hk.1.2)⟩, ⟨by (with_reducible repeat (first | refine blk_drewN ?_ _ | refine blk_drew ?_ | refine blk_alloc ?_ _)); refine blk_far ?_ NB474_512.out _; (with_reducible repeat (first | refine blk_drewN ?_ _ | refine blk_drew ?_ | refine blk_alloc ?_ _)); refine blk_far ?_ NB474_512.out _; (with_reducible repeat (first | refine blk_drewN ?_ _ | refine blk_drew ?_ | refine blk_alloc ?_ _)); refine blk_far ?_ NB474_512.out _; (with_reducible repeat (first | refine blk_drewN ?_ _ | refine blk_drew ?_ | refine blk_alloc ?_ _)); refine blk_far ?_ NB474_512.out _; (with_reducible repeat (first | refine blk_drewN ?_ _ | refine blk_drew ?_ | refine blk_alloc ?_ _)); exact BK474.out⟩, ⟨by (with_reducible repeat (first | refine blk_drewN ?_ _ | refine blk_drew ?_ | refine blk_alloc ?_ _)); refine blk_far ?_ NB491_512.out _; (with_reducible repeat (first | refine blk_drewN ?_ _ | refine blk_drew ?_ | refine blk_alloc ?_ _)); refine blk_far ?_ NB491_512.out _; (with_reducible repeat (first | refine blk_drewN ?_ _ | refine blk_drew ?_ | refine blk_alloc ?_ _)); refine blk_far ?_ NB491_512.out _; (with_reducible repeat (first | refine blk_drewN ?_ _ | refine blk_drew ?_ | refine blk_alloc ?_ _)); refine blk_far ?_ NB491_512.out _; (with_reducible repeat (first | refine blk_drewN ?_ _ | refine blk_drew ?_ | refine blk_alloc ?_ _)); exact BK491.out⟩, ⟨by (with_reducible repeat (first | refine blk_drewN ?_ _ | refine blk_drew ?_ | refine blk_alloc ?_ _)); refine blk_put (cs := #[.int .i64 t505, .int .u64 t506, .slice Ao96 t507.length co96, .int .i64 0]) ?_ 3 _ rfl; (with_reducible repeat (first | refine blk_drewN ?_ _ | refine blk_drew ?_ | refine blk_alloc ?_ _)); refine blk_put (cs := #[.int .i64 t505, .int .u64 t506, .slice none 0 0, .int .i64 0]) ?_ 2 _ rfl; (with_reducible repeat (first | refine blk_drewN ?_ _ | refine blk_drew ?_ | refine blk_alloc ?_ _)); refine blk_put (cs := #[.int .i64 t505, .int .u64 0, .slice none 0 0, .int .i64 0]) ?_ 1 _ rfl; (with_reducible repeat (first | refine blk_drewN ?_ _ | refine blk_drew ?_ | refine blk_alloc ?_ _)); refine blk_put (cs := #[.int .i64 0, .int .u64 0, .slice none 0 0, .int .i64 0]) ?_ 0 _ rfl; (with_reducible repeat (first | refine blk_drewN ?_ _ | refine blk_drew ?_ | refine blk_alloc ?_ _)); exact BK512.out⟩, ⟨by repeat (first | (with_reducible first | exact HB.out | apply below_alloc | apply pw_below_drewN | apply below_drew1 | refine below_set ?_ GE474.out | refine below_set ?_ GE491.out | refine below_set ?_ GE512.out) | exact HB.out)⟩⟩
              rw [if_neg c98] at H
              have c98b0 : decide ((ji72) < t510) = false := decide_eq_false c98
              clear c98; have H' := Aside0.mk H; clear H; have hnb102 := NB512_474.out; have hnc102 := NB474_512.out; have hnb103 := NB512_491.out; have hnc103 := NB491_512.out
              have hcz104_0 : w92.cell? ⟨gb512, 0, none⟩ = some (.int .i64 0) := (blk_cell BK512.out 0).trans rfl
              have hcz104_1 : w92.cell? ⟨gb512, 1, none⟩ = some (.int .u64 0) := (blk_cell BK512.out 1).trans rfl
              have hcz104_2 : w92.cell? ⟨gb512, 2, none⟩ = some (.slice none 0 0) := (blk_cell BK512.out 2).trans rfl
              have hcz104_3 : w92.cell? ⟨gb512, 3, none⟩ = some (.int .i64 0) := (blk_cell BK512.out 3).trans rfl
              have hfz104_0 := blk_frozen BK512.out 0; have hfz104_1 := blk_frozen BK512.out 1; have hfz104_2 := blk_frozen BK512.out 2; have hfz104_3 := blk_frozen BK512.out 3
              go_wp2
              go_meet
              case rel => exact ⟨_, (decide ((t507.length : Int) > (l1.length : Int))), (by first | rfl | (simp; done) | (simp [*]; done)), H', ⟨by have := HJ5.out; have := HK2.out; have := HJ22.out; have := HK4.out; first | omega | exact Nat.le_refl _⟩, ⟨by (with_reducible repeat (first | apply Kd.S_alloc | apply Kd.S_drewN | apply Kd.S_drew)); exact Kd.S_mono (Kd.S_far (p := ⟨gb512, 3, none⟩) (Kd.S_far (p := ⟨gb512, 2, none⟩) (Kd.S_far (p := ⟨gb512, 1, none⟩) (Kd.S_far (p := ⟨gb512, 0, none⟩) (Kd.S_types HO_492002.out BK512.out (by decide)) (fun _ hk => hk.2) (.int .i64 t505)) (fun _ hk => hk.2) (.int .u64 t506)) (fun _ hk => hk.2) (.slice Ao96 t507.length co96)) (fun _ hk => hk.2) (.int .i64 t510)) (fun _ hk => hk.1.2)⟩, ⟨by (with_reducible repeat (first | apply Kd.S_alloc | apply Kd.S_drewN | apply Kd.S_drew)); exact Kd.S_mono (Kd.S_far (p := ⟨gb512, 3, none⟩) (Kd.S_far (p := ⟨gb512, 2, none⟩) (Kd.S_far (p := ⟨gb512, 1, none⟩) (Kd.S_far (p := ⟨gb512, 0, none⟩) (Kd.S_types HO509.out BK512.out (by decide)) (fun _ hk => hk.2) (.int .i64 t505)) (fun _ hk => hk.2) (.int .u64 t506)) (fun _ hk => hk.2) (.slice Ao96 t507.length co96)) (fun _ hk => hk.2) (.int .i64 t510)) (fun _ hk => hk.1.2)⟩, ⟨by (with_reducible repeat (first | refine blk_drewN ?_ _ | refine blk_drew ?_ | refine blk_alloc ?_ _)); refine blk_far ?_ NB474_512.out _; (with_reducible repeat (first | refine blk_drewN ?_ _ | refine blk_drew ?_ | refine blk_alloc ?_ _)); refine blk_far ?_ NB474_512.out _; (with_reducible repeat (first | refine blk_drewN ?_ _ | refine blk_drew ?_ | refine blk_alloc ?_ _)); refine blk_far ?_ NB474_512.out _; (with_reducible repeat (first | refine blk_drewN ?_ _ | refine blk_drew ?_ | refine blk_alloc ?_ _)); refine blk_far ?_ NB474_512.out _; (with_reducible repeat (first | refine blk_drewN ?_ _ | refine blk_drew ?_ | refine blk_alloc ?_ _)); exact BK474.out⟩, ⟨by (with_reducible repeat (first | refine blk_drewN ?_ _ | refine blk_drew ?_ | refine blk_alloc ?_ _)); refine blk_far ?_ NB491_512.out _; (with_reducible repeat (first | refine blk_drewN ?_ _ | refine blk_drew ?_ | refine blk_alloc ?_ _)); refine blk_far ?_ NB491_512.out _; (with_reducible repeat (first | refine blk_drewN ?_ _ | refine blk_drew ?_ | refine blk_alloc ?_ _)); refine blk_far ?_ NB491_512.out _; (with_reducible repeat (first | refine blk_drewN ?_ _ | refine blk_drew ?_ | refine blk_alloc ?_ _)); refine blk_far ?_ NB491_512.out _; (with_reducible repeat (first | refine blk_drewN ?_ _ | refine blk_drew ?_ | refine blk_alloc ?_ _)); exact BK491.out⟩, ⟨by (with_reducible repeat (first | refine blk_drewN ?_ _ | refine blk_drew ?_ | refine blk_alloc ?_ _)); refine blk_put (cs := #[.int .i64 t505, .int .u64 t506, .slice Ao96 t507.length co96, .int .i64 0]) ?_ 3 _ rfl; (with_reducible repeat (first | refine blk_drewN ?_ _ | refine blk_drew ?_ | refine blk_alloc ?_ _)); refine blk_put (cs := #[.int .i64 t505, .int .u64 t506, .slice none 0 0, .int .i64 0]) ?_ 2 _ rfl; (with_reducible repeat (first | refine blk_drewN ?_ _ | refine blk_drew ?_ | refine blk_alloc ?_ _)); refine blk_put (cs := #[.int .i64 t505, .int .u64 0, .slice none 0 0, .int .i64 0]) ?_ 1 _ rfl; (with_reducible repeat (first | refine blk_drewN ?_ _ | refine blk_drew ?_ | refine blk_alloc ?_ _)); refine blk_put (cs := #[.int .i64 0, .int .u64 0, .slice none 0 0, .int .i64 0]) ?_ 0 _ rfl; (with_reducible repeat (first | refine blk_drewN ?_ _ | refine blk_drew ?_ | refine blk_alloc ?_ _)); exact BK512.out⟩, ⟨by repeat (first | (with_reducible first | exact HB.out | apply below_alloc | apply pw_below_drewN | apply below_drew1 | refine below_set ?_ GE474.out | refine below_set ?_ GE491.out | refine below_set ?_ GE512.out) | exact HB.out)⟩⟩
             case rest =>
              as_aux_lemma =>
               clear HC89; (try clear c1); (try clear c2); (try clear p2); (try clear c3); (try clear c4); (try clear p4); (try clear q4); (try clear hx4); (try clear c5); (try clear p5); (try clear q5); (try clear hx5); (try clear c6); (try clear p6); (try clear c7); (try clear c8); (try clear q8); (try clear c9); (try clear q9); (try clear c10); (try clear c29); (try clear c34); (try clear c42); (try clear c49); (try clear p49); (try clear q49); (try clear hx49); (try clear c50); (try clear p50); (try clear q50); (try clear hx50); (try clear c60); (try clear c60b0); (try clear c61); (try clear c62); (try clear c64); (try clear p64); (try clear c65); (try clear c65b0); (try clear c65b1); (try clear c69); (try clear c71); (try clear c71b0); (try clear c71b1); (try clear c73); (try clear c73b0); (try clear c73b1); (try clear c74); (try clear c74b0); (try clear c74b1); (try clear c76); (try clear c76b0); (try clear c78); (try clear c79); (try clear c79b0); (try clear c79b1); (try clear q80); (try clear c83); (try clear c84); (try clear q90); (try clear c93); (try clear c94); (try clear c97); (try clear c97b0); (try clear c97b1); (try clear c98); (try clear c98b0); (try clear c99); (try clear c100); (try clear c102); (try clear c103); (try clear hcz101_0); (try clear hcz101_1); (try clear hcz101_2); (try clear hcz101_3); (try clear hcz104_0); (try clear hcz104_1); (try clear hcz104_2); (try clear hcz104_3); (try clear hcz70_0); (try clear hcz70_1); (try clear hcz70_2); (try clear hcz70_3); (try clear hcz85_0); (try clear hcz85_1); (try clear hcz85_2); (try clear hcz85_3); (try clear hcz88_0); (try clear hcz88_1); (try clear hcz88_2); (try clear hcz88_3); (try clear hcz95_0); (try clear hcz95_1); (try clear hcz95_2); (try clear hcz95_3); (try clear hfz101_0); (try clear hfz101_1); (try clear hfz101_2); (try clear hfz101_3); (try clear hfz104_0); (try clear hfz104_1); (try clear hfz104_2); (try clear hfz104_3); (try clear hfz70_0); (try clear hfz70_1); (try clear hfz70_2); (try clear hfz70_3); (try clear hfz85_0); (try clear hfz85_1); (try clear hfz85_2); (try clear hfz85_3); (try clear hfz88_0); (try clear hfz88_1); (try clear hfz88_2); (try clear hfz88_3); (try clear hfz95_0); (try clear hfz95_1); (try clear hfz95_2); (try clear hfz95_3); (try clear hx495_0); (try clear hx495_1); (try clear hx495_2); (try clear hx495_3); (try clear hx495_4); (try clear hx495_5); (try clear hx496_0); (try clear hx496_1); (try clear hx496_2); (try clear hx496_3); (try clear hx498_0); (try clear hx498_1); (try clear hx498_2); (try clear hx498_3); (try clear hx498_4); (try clear hx498_5); (try clear hx499_0); (try clear hx499_1); (try clear hx499_2); (try clear hx499_3); (try clear hx499_4); (try clear hx499_5); (try clear hx500_0); (try clear hx500_1); (try clear hx500_2); (try clear hx500_3); (try clear hx500_4); (try clear hx500_5); (try clear p495); (try clear p496); (try clear p498); (try clear p499); (try clear p500); (try clear q495); (try clear q496); (try clear q498); (try clear q499); (try clear q500); (try clear q80); (try clear q90); obtain ⟨kq, x192_88, rfl, HA, HJ88, HO_492002, HO_513002, BK474, BK491, BK512, HB⟩ := hcut
               cases kq with
               | zero => exact absurd HA.out (by simp [tiklaw16_SegBack.j4])
               | succ kj88 =>
                have H := HA.out; clear HA
                simp only [tiklaw16_SegBack.j4] at H
                by_cases c105 : x192_88 = true
                ·subst c105
                 have H1 : (some false) = some r := by rw [if_pos rfl] at H; exact H
                 clear H; have H := H1; clear H1
                 exact absurd ((Option.some.inj H).trans hr_.out) (by simp)
                replace c105 := Bool.eq_false_iff.mpr c105
                subst c105
                have H1 : (tiklaw16_SegBack.l2 kj88 l1 ji72 0 t484 t485 t486 t489 t505 t506 t507 t510) = some r := by rw [if_neg (show ¬ (false = true) by decide)] at H; exact H
                clear H; have H := H1; clear H1; have H' := Aside0.mk H; clear H
                go_wp2
                go_loopg [19] kj88 (fun kq v19 w' => ∃ (x19_6 : Int), v19 = .int .i64 x19_6 ∧ Aside0 (tiklaw16_SegBack.l2 kq l1 ji72 x19_6 t484 t485 t486 t489 t505 t506 t507 t510 = some r) ∧ Aside0 (kq ≤ kj88) ∧ Aside0 (Kd.S k93 93 w' w.heap.size (fun k_ => some k_ ≠ ((.slice Ao96 t507.length co96) : Value).ownBlock) (.slice Ao31 t486.length co31) t486) ∧ Aside0 (Kd.S k93 93 w' w.heap.size (fun k_ => some k_ ≠ ((.slice Ao31 t486.length co31) : Value).ownBlock) (.slice Ao96 t507.length co96) t507) ∧ Aside0 (w'.heap[gb474]? = some (.cells #[.int .i64 a0_0, .int .u64 a0_1] 63 (0, 0))) ∧ Aside0 (w'.heap[gb491]? = some (.cells #[.int .i64 t484, .int .u64 t485, (.slice Ao31 t486.length co31), .int .i64 t489] 72 (0, 0))) ∧ Aside0 (w'.heap[gb512]? = some (.cells #[.int .i64 t505, .int .u64 t506, (.slice Ao96 t507.length co96), .int .i64 t510] 72 (0, 0))) ∧ Aside0 (Below w.heap.size w w'))
                case atStart => exact ⟨(0), (by first | rfl | (simp; done) | (simp [*]; done)), H', ⟨Nat.le_refl _⟩, ⟨by (with_reducible repeat (first | apply Kd.S_alloc | apply Kd.S_drewN | apply Kd.S_drew)); exact HO_492002.out⟩, ⟨by (with_reducible repeat (first | apply Kd.S_alloc | apply Kd.S_drewN | apply Kd.S_drew)); exact HO_513002.out⟩, ⟨by (with_reducible repeat (first | refine blk_drewN ?_ _ | refine blk_drew ?_ | refine blk_alloc ?_ _)); exact BK474.out⟩, ⟨by (with_reducible repeat (first | refine blk_drewN ?_ _ | refine blk_drew ?_ | refine blk_alloc ?_ _)); exact BK491.out⟩, ⟨by (with_reducible repeat (first | refine blk_drewN ?_ _ | refine blk_drew ?_ | refine blk_alloc ?_ _)); exact BK512.out⟩, ⟨by repeat (first | (with_reducible first | exact HB.out | apply below_alloc | apply pw_below_drewN | apply below_drew1 | refine below_set ?_ GE474.out | refine below_set ?_ GE491.out | refine below_set ?_ GE512.out) | exact HB.out)⟩⟩
                case round =>
                 as_aux_lemma =>
                  clear H'
                  (try clear c1); (try clear c2); (try clear p2); (try clear c3); (try clear c4); (try clear p4); (try clear q4); (try clear hx4); (try clear c5); (try clear p5); (try clear q5); (try clear hx5); (try clear c6); (try clear p6); (try clear c7); (try clear c8); (try clear q8); (try clear c9); (try clear q9); (try clear c10); (try clear c29); (try clear c34); (try clear c42); (try clear c49); (try clear p49); (try clear q49); (try clear hx49); (try clear c50); (try clear p50); (try clear q50); (try clear hx50); (try clear c60); (try clear c60b0); (try clear c61); (try clear c62); (try clear c64); (try clear p64); (try clear c65); (try clear c65b0); (try clear c65b1); (try clear c69); (try clear c71); (try clear c71b0); (try clear c71b1); (try clear c73); (try clear c73b0); (try clear c73b1); (try clear c74); (try clear c74b0); (try clear c74b1); (try clear c76); (try clear c76b0); (try clear c78); (try clear c79); (try clear c79b0); (try clear c79b1); (try clear q80); (try clear c83); (try clear c84); (try clear q90); (try clear c93); (try clear c94); (try clear c97); (try clear c97b0); (try clear c97b1); (try clear c98); (try clear c98b0); (try clear c99); (try clear c100); (try clear c102); (try clear c103); (try clear c105); (try clear hcz101_0); (try clear hcz101_1); (try clear hcz101_2); (try clear hcz101_3); (try clear hcz104_0); (try clear hcz104_1); (try clear hcz104_2); (try clear hcz104_3); (try clear hcz70_0); (try clear hcz70_1); (try clear hcz70_2); (try clear hcz70_3); (try clear hcz85_0); (try clear hcz85_1); (try clear hcz85_2); (try clear hcz85_3); (try clear hcz88_0); (try clear hcz88_1); (try clear hcz88_2); (try clear hcz88_3); (try clear hcz95_0); (try clear hcz95_1); (try clear hcz95_2); (try clear hcz95_3); (try clear hfz101_0); (try clear hfz101_1); (try clear hfz101_2); (try clear hfz101_3); (try clear hfz104_0); (try clear hfz104_1); (try clear hfz104_2); (try clear hfz104_3); (try clear hfz70_0); (try clear hfz70_1); (try clear hfz70_2); (try clear hfz70_3); (try clear hfz85_0); (try clear hfz85_1); (try clear hfz85_2); (try clear hfz85_3); (try clear hfz88_0); (try clear hfz88_1); (try clear hfz88_2); (try clear hfz88_3); (try clear hfz95_0); (try clear hfz95_1); (try clear hfz95_2); (try clear hfz95_3); (try clear hx495_0); (try clear hx495_1); (try clear hx495_2); (try clear hx495_3); (try clear hx495_4); (try clear hx495_5); (try clear hx496_0); (try clear hx496_1); (try clear hx496_2); (try clear hx496_3); (try clear hx498_0); (try clear hx498_1); (try clear hx498_2); (try clear hx498_3); (try clear hx498_4); (try clear hx498_5); (try clear hx499_0); (try clear hx499_1); (try clear hx499_2); (try clear hx499_3); (try clear hx499_4); (try clear hx499_5); (try clear hx500_0); (try clear hx500_1); (try clear hx500_2); (try clear hx500_3); (try clear hx500_4); (try clear hx500_5); (try clear p2); (try clear p4); (try clear p49); (try clear p495); (try clear p496); (try clear p498); (try clear p499); (try clear p5); (try clear p50); (try clear p500); (try clear p6); (try clear p64); (try clear q4); (try clear q49); (try clear q495); (try clear q496); (try clear q498); (try clear q499); (try clear q5); (try clear q50); (try clear q500); (try clear q8); (try clear q80); (try clear q9); (try clear q90); obtain ⟨x19_6, rfl, HA, HK6, HO_492002, HO_513002, BK474, BK491, BK512, HB⟩ := hrel
                  cases gk with
                  | zero => exact absurd HA.out (by simp [tiklaw16_SegBack.l2])
                  | succ k6 =>
                   have H := HA.out; clear HA
                   simp only [tiklaw16_SegBack.l2] at H
                   by_cases c106 : x19_6 < (l1.length : Int)
                   ·rw [if_pos c106] at H
                    have c106b0 : decide (x19_6 < (l1.length : Int)) = true := decide_eq_true c106
                    clear c106
                    by_cases c107 : 0 ≤ x19_6
                    rotate_left
                    ·rw [if_neg c107] at H
                     exact absurd H (by simp)
                    rw [if_pos c107] at H
                    have c107b0 : decide (0 ≤ x19_6) = true := decide_eq_true c107
                    clear c107
                    by_cases c108 : x19_6 < (t486.length : Int)
                    rotate_left
                    ·rw [if_neg c108] at H
                     exact absurd H (by simp)
                    rw [if_pos c108] at H
                    have c108b0 : decide (x19_6 < (t486.length : Int)) = true := decide_eq_true c108
                    clear c108
                    by_cases c109 : ((decide (((rd_T93 t486 x19_6).f2) ≤ ji72)) != (decide (x19_6 < (t507.length : Int)))) = true
                    ·rw [if_pos c109] at H
                     have c109b0 : ((decide (((rd_T93 t486 x19_6).f2) ≤ ji72)) != (decide (x19_6 < (t507.length : Int)))) = true := c109
                     (try (have c109b1 : decide ((decide (((rd_T93 t486 x19_6).f2) ≤ ji72)) = (decide (x19_6 < (t507.length : Int)))) = false := by simpa using c109))
                     (try (have c109b2 : ((decide (((rd_T93 t486 x19_6).f2) ≤ ji72)) == (decide (x19_6 < (t507.length : Int)))) = false := by simpa using c109))
                     (try (have c109b3 : ¬ ((decide (((rd_T93 t486 x19_6).f2) ≤ ji72)) = (decide (x19_6 < (t507.length : Int)))) := by simpa using c109))
                     clear c109
                     exact absurd ((Option.some.inj H).trans hr_.out) (by simp)
                    rw [if_neg c109] at H
                    have c109b0 : ((decide (((rd_T93 t486 x19_6).f2) ≤ ji72)) != (decide (x19_6 < (t507.length : Int)))) = false := by simpa using c109
                    (try (have c109b1 : decide ((decide (((rd_T93 t486 x19_6).f2) ≤ ji72)) = (decide (x19_6 < (t507.length : Int)))) = true := by simpa using c109))
                    (try (have c109b2 : ((decide (((rd_T93 t486 x19_6).f2) ≤ ji72)) == (decide (x19_6 < (t507.length : Int)))) = true := by simpa using c109))
                    clear c109; have H' := Aside0.mk H; clear H
                    try go_wp2
                    have n0_ := Aside0.mk (Kd.S_drew HO_492002.out); have n1_ := Aside0.mk (Kd.S_drew HO_513002.out); have n2_ := Aside0.mk (blk_drew BK474.out); have n3_ := Aside0.mk (blk_drew BK491.out); have n4_ := Aside0.mk (blk_drew BK512.out); have n5_ := Aside0.mk (below_drew1 HB.out); clear HO_492002; clear HO_513002; clear BK474; clear BK491; clear BK512; clear HB; have HO_492002 := n0_; have HO_513002 := n1_; have BK474 := n2_; have BK491 := n3_; have BK512 := n4_; have HB := n5_; clear n0_ n1_ n2_ n3_ n4_ n5_
                    have p514 : 0 ≤ (x19_6 : Int) := of_decide_eq_true (by first | (with_reducible assumption) | assumption)
                    have q514 : x19_6 < (t486.length : Int) := of_decide_eq_true (by first | (with_reducible assumption) | assumption)
                    obtain ⟨ad514, A514_3, c514_3, e514, hx514_0, hx514_1, hx514_2, hx514_3, hx514_4, hx514_5, hl514_3, hi514_3⟩ := at_T93 (Kd.S_reads' HO_492002.out).2.2 x19_6 p514 q514
                    cases e514
                    obtain ⟨ce514, hce514, hMe514, hcc514⟩ := Kd.S_get HO_492002.out z93 x19_6 p514 (by first | exact q514 | exact of_decide_eq_true (by first | (with_reducible assumption) | assumption) | (have e_ := (Kd.S_reads' HO_492002.out).1; omega)); obtain ⟨ve514_3, rfl, ge514_3⟩ := k93_openM hMe514; have hv514_3 := hcc514 3 _ rfl; rw [add_field _ _ 3 (by omega)] at hv514_3
                    replace hv514_3 := Option.some.inj (hv514_3.symm.trans hx514_3)
                    rw [hv514_3] at ge514_3; have HL514_3 := Aside0.mk (show Kd.R (Kd.int .u8) 5 _ _ _ _ ((rd_T93 t486 x19_6).f0.f3) from ge514_3); clear hv514_3 ge514_3; clear hcc514 hce514; have HR514_3 := Aside0.mk hi514_3; have HC514_3 := Aside0.mk hl514_3; clear hi514_3 hl514_3
                    replace p514 := eq_true p514
                    replace q514 := eq_true q514
                    refine start_ (n := 14) (S := fun w' => w'.cell? ⟨gb491, 0, none⟩ = some (.int .i64 t484) ∧ w'.cell? ⟨gb491, 1, none⟩ = some (.int .u64 t485) ∧ w'.cell? ⟨gb491, 2, none⟩ = some (.slice (some ad514) t486.length co31) ∧ w'.cell? ⟨gb491, 3, none⟩ = some (.int .i64 t489) ∧ w'.cell? ⟨gb512, 0, none⟩ = some (.int .i64 t505) ∧ w'.cell? ⟨gb512, 1, none⟩ = some (.int .u64 t506) ∧ w'.cell? ⟨gb512, 2, none⟩ = some (.slice Ao96 t507.length co96) ∧ w'.cell? ⟨gb512, 3, none⟩ = some (.int .i64 t510) ∧ w'.cell? (ad514.add ((x19_6).toNat * 6)) = some (.int .i64 ((rd_T93 t486 x19_6).f0.f0)) ∧ w'.cell? ⟨(ad514.add ((x19_6).toNat * 6)).block, (ad514.add ((x19_6).toNat * 6)).off + 1, none⟩ = some (.int .u64 ((rd_T93 t486 x19_6).f0.f1)) ∧ w'.cell? ⟨(ad514.add ((x19_6).toNat * 6)).block, (ad514.add ((x19_6).toNat * 6)).off + 2, none⟩ = some (.int .u64 ((rd_T93 t486 x19_6).f0.f2)) ∧ w'.cell? ⟨(ad514.add ((x19_6).toNat * 6)).block, (ad514.add ((x19_6).toNat * 6)).off + 3, none⟩ = some (.slice A514_3 ((rd_T93 t486 x19_6).f0.f3).length c514_3) ∧ w'.cell? ⟨(ad514.add ((x19_6).toNat * 6)).block, (ad514.add ((x19_6).toNat * 6)).off + 4, none⟩ = some (.int .i64 ((rd_T93 t486 x19_6).f1)) ∧ w'.cell? ⟨(ad514.add ((x19_6).toNat * 6)).block, (ad514.add ((x19_6).toNat * 6)).off + 5, none⟩ = some (.int .i64 ((rd_T93 t486 x19_6).f2))) (ds := []) #[false, false, false, false, false, false, false, false, false, false, false, false, false, false] (by kernel_rfl) rfl rfl ⟨(blk_cell BK491.out 0).trans rfl, (blk_cell BK491.out 1).trans rfl, (blk_cell BK491.out 2).trans rfl, (blk_cell BK491.out 3).trans rfl, (blk_cell BK512.out 0).trans rfl, (blk_cell BK512.out 1).trans rfl, (blk_cell BK512.out 2).trans rfl, (blk_cell BK512.out 3).trans rfl, hx514_0, hx514_1, hx514_2, hx514_3, hx514_4, hx514_5⟩ (fun hHeld => ?_); refine with_tabW tiklaw16_SegBack.tab33 tiklaw16_SegBack.bits33 (fun HT_ HW_ => ?_)
                    generalize wr.drew = w110 at HO_492002 HO_513002 BK474 BK491 BK512 HB HL514_3 HR514_3 hx514_0 hx514_1 hx514_2 hx514_3 hx514_4 hx514_5 hHeld ⊢
                    refine pure_ (i := 0) (N := some 199) (v := ?_) (a' := ?_) #[true, false, false, false, false, false, false, false, false, false, false, false, false, false] rfl rfl (any_of HT_.out (by kernel_rfl)) (fun _ _ _ h => h) (Or.inl ⟨by rfl, ?_⟩) ?_ ?_
                    rotate_left
                    ·intro w'
                     go_simp
                     with_reducible rfl
                    rotate_left
                    ·simp only [Act.put, List.setIfInBounds_toArray, List.set_cons_zero, List.set_cons_succ, i64_w, i32_w]
                     rfl
                    refine pure_ (i := 2) (N := some 201) (v := ?_) (a' := ?_) #[true, false, true, false, false, false, false, false, false, false, false, false, false, false] rfl rfl (any_of HT_.out (by kernel_rfl)) (fun _ _ _ h => h) (Or.inl ⟨by rfl, ?_⟩) ?_ ?_
                    rotate_left
                    ·intro w'
                     go_simp
                     with_reducible rfl
                    rotate_left
                    ·simp only [Act.put, List.setIfInBounds_toArray, List.set_cons_zero, List.set_cons_succ, i64_w, i32_w]
                     rfl
                    refine pure_ (i := 6) (N := some 205) (v := ?_) (a' := ?_) #[true, false, true, false, false, false, true, false, false, false, false, false, false, false] rfl rfl (any_of HT_.out (by kernel_rfl)) (fun _ _ _ h => h) (Or.inl ⟨by rfl, ?_⟩) ?_ ?_
                    rotate_left
                    ·intro w'
                     go_simp
                     with_reducible rfl
                    rotate_left
                    ·simp only [Act.put, List.setIfInBounds_toArray, List.set_cons_zero, List.set_cons_succ, i64_w, i32_w]
                     rfl
                    refine pure_ (i := 8) (N := some 207) (v := ?_) (a' := ?_) #[true, false, true, false, false, false, true, false, true, false, false, false, false, false] rfl rfl (any_of HT_.out (by kernel_rfl)) (fun _ _ _ h => h) (Or.inl ⟨by rfl, ?_⟩) ?_ ?_
                    rotate_left
                    ·intro w'
                     go_simp
                     with_reducible rfl
                    rotate_left
                    ·simp only [Act.put, List.setIfInBounds_toArray, List.set_cons_zero, List.set_cons_succ, i64_w, i32_w]
                     rfl
                    refine pure_ (i := 9) (N := some 208) (v := ?_) (a' := ?_) #[true, false, true, false, false, false, true, false, true, true, false, false, false, false] rfl rfl (any_of HT_.out (by kernel_rfl)) (fun _ _ _ h => h) (Or.inl ⟨by rfl, ?_⟩) ?_ ?_
                    rotate_left
                    ·intro w'
                     go_simp
                     with_reducible rfl
                    rotate_left
                    ·simp only [Act.put, List.setIfInBounds_toArray, List.set_cons_zero, List.set_cons_succ, i64_w, i32_w]
                     rfl
                    refine take_ (i := 1) (N := some 200) (v := ?_) (a' := ?_) #[true, true, true, false, false, false, true, false, true, true, false, false, false, false] rfl rfl (take_ofW HT_.out HW_.out (by kernel_rfl)) (fun _ _ _ h => h) (Or.inl ⟨by rfl, ?_⟩) hHeld ?_ ?_
                    rotate_left
                    ·rintro w' ⟨s0, s1, s2, s3, s4, s5, s6, s7, s8, s9, s10, s11, s12, s13⟩
                     go_simp
                     with_reducible rfl
                    rotate_left
                    ·simp only [Act.put, List.setIfInBounds_toArray, List.set_cons_zero, List.set_cons_succ, i64_w, i32_w]
                     rfl
                    refine pure_ (i := 3) (N := some 202) (v := ?_) (a' := ?_) #[true, true, true, true, false, false, true, false, true, true, false, false, false, false] rfl rfl (any_of HT_.out (by kernel_rfl)) (fun _ _ _ h => h) (Or.inl ⟨by rfl, ?_⟩) ?_ ?_
                    rotate_left
                    ·intro w'
                     go_simp
                     with_reducible rfl
                    rotate_left
                    ·simp only [Act.put, List.setIfInBounds_toArray, List.set_cons_zero, List.set_cons_succ, i64_w, i32_w]
                     rfl
                    refine pure_ (i := 4) (N := some 203) (v := ?_) (a' := ?_) #[true, true, true, true, true, false, true, false, true, true, false, false, false, false] rfl rfl (any_of HT_.out (by kernel_rfl)) (fun _ _ _ h => h) (Or.inl ⟨by rfl, ?_⟩) ?_ ?_
                    rotate_left
                    ·intro w'
                     go_simp
                     with_reducible rfl
                    rotate_left
                    ·simp only [Act.put, List.setIfInBounds_toArray, List.set_cons_zero, List.set_cons_succ, i64_w, i32_w]
                     rfl
                    refine take_ (i := 5) (N := some 204) (v := ?_) (a' := ?_) #[true, true, true, true, true, true, true, false, true, true, false, false, false, false] rfl rfl (take_ofW HT_.out HW_.out (by kernel_rfl)) (fun _ _ _ h => h) (Or.inl ⟨by rfl, ?_⟩) hHeld ?_ ?_
                    rotate_left
                    ·rintro w' ⟨s0, s1, s2, s3, s4, s5, s6, s7, s8, s9, s10, s11, s12, s13⟩
                     go_simp
                     with_reducible rfl
                    rotate_left
                    ·simp only [Act.put, List.setIfInBounds_toArray, List.set_cons_zero, List.set_cons_succ, i64_w, i32_w]
                     rfl
                    refine pure_ (i := 7) (N := some 206) (v := ?_) (a' := ?_) #[true, true, true, true, true, true, true, true, true, true, false, false, false, false] rfl rfl (any_of HT_.out (by kernel_rfl)) (fun _ _ _ h => h) (Or.inl ⟨by rfl, ?_⟩) ?_ ?_
                    rotate_left
                    ·intro w'
                     go_simp
                     with_reducible rfl
                    rotate_left
                    ·simp only [Act.put, List.setIfInBounds_toArray, List.set_cons_zero, List.set_cons_succ, i64_w, i32_w]
                     rfl
                    refine take_ (i := 10) (N := some 209) (v := ?_) (a' := ?_) #[true, true, true, true, true, true, true, true, true, true, true, false, false, false] rfl rfl (take_ofW HT_.out HW_.out (by kernel_rfl)) (fun _ _ _ h => h) (Or.inl ⟨by rfl, ?_⟩) hHeld ?_ ?_
                    rotate_left
                    ·rintro w' ⟨s0, s1, s2, s3, s4, s5, s6, s7, s8, s9, s10, s11, s12, s13⟩
                     go_simp
                     with_reducible rfl
                    rotate_left
                    ·simp only [Act.put, List.setIfInBounds_toArray, List.set_cons_zero, List.set_cons_succ, i64_w, i32_w]
                     rfl
                    refine pure_ (i := 11) (N := some 210) (v := ?_) (a' := ?_) #[true, true, true, true, true, true, true, true, true, true, true, true, false, false] rfl rfl (any_of HT_.out (by kernel_rfl)) (fun _ _ _ h => h) (Or.inl ⟨by rfl, ?_⟩) ?_ ?_
                    rotate_left
                    ·intro w'
                     go_simp
                     with_reducible rfl
                    rotate_left
                    ·simp only [Act.put, List.setIfInBounds_toArray, List.set_cons_zero, List.set_cons_succ, i64_w, i32_w]
                     rfl
                    refine pure_ (i := 12) (N := some 211) (v := ?_) (a' := ?_) #[true, true, true, true, true, true, true, true, true, true, true, true, true, false] rfl rfl (any_of HT_.out (by kernel_rfl)) (fun _ _ _ h => h) (Or.inl ⟨by rfl, ?_⟩) ?_ ?_
                    rotate_left
                    ·intro w'
                     go_simp
                     with_reducible rfl
                    rotate_left
                    ·simp only [Act.put, List.setIfInBounds_toArray, List.set_cons_zero, List.set_cons_succ, i64_w, i32_w]
                     rfl
                    refine pure_ (i := 13) (N := some 212) (v := ?_) (a' := ?_) #[true, true, true, true, true, true, true, true, true, true, true, true, true, true] rfl rfl (any_of HT_.out (by kernel_rfl)) (fun _ _ _ h => h) (Or.inl ⟨by rfl, ?_⟩) ?_ ?_
                    rotate_left
                    ·intro w'
                     go_simp
                     with_reducible rfl
                    rotate_left
                    ·simp only [Act.put, List.setIfInBounds_toArray, List.set_cons_zero, List.set_cons_succ, i64_w, i32_w]
                     rfl
                    refine done_ (done_of HT_.out (by kernel_rfl)) ?_
                    try go_wp2
                    go_roundg k6
                    case measure => have := HJ5.out; have := HK2.out; have := HJ22.out; have := HK4.out; have := HJ88.out; have := HK6.out; omega
                    case rel => exact ⟨(wrap64 (x19_6 + 1)), (by first | rfl | (simp; done) | (simp [*]; done)), H', ⟨by have := HJ5.out; have := HK2.out; have := HJ22.out; have := HK4.out; have := HJ88.out; have := HK6.out; omega⟩, ⟨by (with_reducible repeat (first | apply Kd.S_alloc | apply Kd.S_drewN | apply Kd.S_drew)); exact HO_492002.out⟩, ⟨by (with_reducible repeat (first | apply Kd.S_alloc | apply Kd.S_drewN | apply Kd.S_drew)); exact HO_513002.out⟩, ⟨by (with_reducible repeat (first | refine blk_drewN ?_ _ | refine blk_drew ?_ | refine blk_alloc ?_ _)); exact BK474.out⟩, ⟨by (with_reducible repeat (first | refine blk_drewN ?_ _ | refine blk_drew ?_ | refine blk_alloc ?_ _)); exact BK491.out⟩, ⟨by (with_reducible repeat (first | refine blk_drewN ?_ _ | refine blk_drew ?_ | refine blk_alloc ?_ _)); exact BK512.out⟩, ⟨by repeat (first | (with_reducible first | exact HB.out | apply below_alloc | apply pw_below_drewN | apply below_drew1 | refine below_set ?_ GE474.out | refine below_set ?_ GE491.out | refine below_set ?_ GE512.out) | exact HB.out)⟩⟩
                   rw [if_neg c106] at H
                   have c106b0 : decide (x19_6 < (l1.length : Int)) = false := decide_eq_false c106
                   clear c106
                   replace H := Option.bind_eq_some_iff.mp H
                   obtain ⟨t515, A1110, H⟩ := H
                   replace H : (if t515 = true then (if (t507.length : Int) = 0 then (if t510 = 20 then (some true) else (if (t507.length : Int) > 0 then (if 0 ≤ (wrap64 ((t507.length : Int) - 1)) then (if (wrap64 ((t507.length : Int) - 1)) < (t486.length : Int) then (some (t510 == ((rd_T93 t486 (wrap64 ((t507.length : Int) - 1))).f2))) else (none)) else (none)) else (some false))) else (if (t507.length : Int) > 0 then (if 0 ≤ (wrap64 ((t507.length : Int) - 1)) then (if (wrap64 ((t507.length : Int) - 1)) < (t486.length : Int) then (some (t510 == ((rd_T93 t486 (wrap64 ((t507.length : Int) - 1))).f2))) else (none)) else (none)) else (some false))) else (some false)) = some r := H
                   have A111 := Aside0.mk A1110; clear A1110
                   by_cases c112 : t515 = true
                   rotate_left
                   ·replace c112 := Bool.eq_false_iff.mpr c112
                    subst c112
                    have H1 : (some false) = some r := by rw [if_neg (show ¬ (false = true) by decide)] at H; exact H
                    clear H; have H := H1; clear H1
                    exact absurd ((Option.some.inj H).trans hr_.out) (by simp)
                   subst c112
                   have H1 : (if (t507.length : Int) = 0 then (if t510 = 20 then (some true) else (if (t507.length : Int) > 0 then (if 0 ≤ (wrap64 ((t507.length : Int) - 1)) then (if (wrap64 ((t507.length : Int) - 1)) < (t486.length : Int) then (some (t510 == ((rd_T93 t486 (wrap64 ((t507.length : Int) - 1))).f2))) else (none)) else (none)) else (some false))) else (if (t507.length : Int) > 0 then (if 0 ≤ (wrap64 ((t507.length : Int) - 1)) then (if (wrap64 ((t507.length : Int) - 1)) < (t486.length : Int) then (some (t510 == ((rd_T93 t486 (wrap64 ((t507.length : Int) - 1))).f2))) else (none)) else (none)) else (some false))) = some r := by rw [if_pos rfl] at H; exact H
                   clear H; have H := H1; clear H1
                   by_cases c113 : (t507.length : Int) = 0
                   rotate_left
                   ·rw [if_neg c113] at H
                    have c113b0 : ((t507.length : Int) == 0) = false := beq_eq_false_iff_ne.mpr c113
                    have c113b1 : ((t507.length : Int) != 0) = true := bne_iff_ne.mpr c113
                    have c113b2 : ¬ (t507 = []) := fun h_ => c113 (by rw [h_]; rfl)
                    by_cases c123 : (t507.length : Int) > 0
                    rotate_left
                    ·rw [if_neg c123] at H
                     have c123b0 : decide (0 < (t507.length : Int)) = false := decide_eq_false c123
                     have c123b1 : decide (0 < t507.length) = false := decide_eq_false (by omega)
                     clear c123
                     exact absurd ((Option.some.inj H).trans hr_.out) (by simp)
                    rw [if_pos c123] at H
                    have c123b0 : decide (0 < (t507.length : Int)) = true := decide_eq_true c123
                    have c123b1 : decide (0 < t507.length) = true := decide_eq_true (by omega)
                    clear c123
                    obtain ⟨ji124, hji124⟩ : ∃ j_ : Int, (wrap64 ((t507.length : Int) - 1)) = j_ := ⟨_, rfl⟩
                    replace H : (if 0 ≤ (ji124) then (if (ji124) < (t486.length : Int) then (some (t510 == ((rd_T93 t486 (ji124)).f2))) else (none)) else (none)) = some r := by first | (rw [hji124] at H; exact H) | (simp only [hji124] at H ⊢; exact H)
                    (try rw [hji124] at A111)
                    have hji124w : (IntKind.i64.wrap ((t507.length : Int) - 1)) = ji124 := (i64_w _).trans hji124
                    by_cases c125 : 0 ≤ (ji124)
                    rotate_left
                    ·rw [if_neg c125] at H
                     exact absurd H (by simp)
                    rw [if_pos c125] at H
                    have c125b0 : decide (0 ≤ (ji124)) = true := decide_eq_true c125
                    clear c125
                    by_cases c126 : (ji124) < (t486.length : Int)
                    rotate_left
                    ·rw [if_neg c126] at H
                     exact absurd H (by simp)
                    rw [if_pos c126] at H
                    have c126b0 : decide ((ji124) < (t486.length : Int)) = true := decide_eq_true c126
                    clear c126
                    obtain rfl := Option.some.inj H
                    try go_wp2
                    have n0_ := Aside0.mk (Kd.S_drew HO_492002.out); have n1_ := Aside0.mk (Kd.S_drew HO_513002.out); have n2_ := Aside0.mk (blk_drew BK474.out); have n3_ := Aside0.mk (blk_drew BK491.out); have n4_ := Aside0.mk (blk_drew BK512.out); have n5_ := Aside0.mk (below_drew1 HB.out); clear HO_492002; clear HO_513002; clear BK474; clear BK491; clear BK512; clear HB; have HO_492002 := n0_; have HO_513002 := n1_; have BK474 := n2_; have BK491 := n3_; have BK512 := n4_; have HB := n5_; clear n0_ n1_ n2_ n3_ n4_ n5_
                    have p517 : 0 ≤ ((ji124) : Int) := of_decide_eq_true (by first | (with_reducible assumption) | assumption)
                    have q517 : (ji124) < (t486.length : Int) := of_decide_eq_true (by first | (with_reducible assumption) | assumption)
                    obtain ⟨ad517, A517_3, c517_3, e517, hx517_0, hx517_1, hx517_2, hx517_3, hx517_4, hx517_5, hl517_3, hi517_3⟩ := at_T93 (Kd.S_reads' HO_492002.out).2.2 (ji124) p517 q517
                    cases e517
                    obtain ⟨ce517, hce517, hMe517, hcc517⟩ := Kd.S_get HO_492002.out z93 (ji124) p517 (by first | exact q517 | exact of_decide_eq_true (by first | (with_reducible assumption) | assumption) | (have e_ := (Kd.S_reads' HO_492002.out).1; omega)); obtain ⟨ve517_3, rfl, ge517_3⟩ := k93_openM hMe517; have hv517_3 := hcc517 3 _ rfl; rw [add_field _ _ 3 (by omega)] at hv517_3
                    replace hv517_3 := Option.some.inj (hv517_3.symm.trans hx517_3)
                    rw [hv517_3] at ge517_3; have HL517_3 := Aside0.mk (show Kd.R (Kd.int .u8) 5 _ _ _ _ ((rd_T93 t486 (ji124)).f0.f3) from ge517_3); clear hv517_3 ge517_3; clear hcc517 hce517; have HR517_3 := Aside0.mk hi517_3; have HC517_3 := Aside0.mk hl517_3; clear hi517_3 hl517_3
                    replace p517 := eq_true p517
                    replace q517 := eq_true q517
                    refine start_ (n := 33) (S := fun w' => w'.cell? ⟨gb512, 0, none⟩ = some (.int .i64 t505) ∧ w'.cell? ⟨gb512, 1, none⟩ = some (.int .u64 t506) ∧ w'.cell? ⟨gb512, 2, none⟩ = some (.slice Ao96 t507.length co96) ∧ w'.cell? ⟨gb512, 3, none⟩ = some (.int .i64 t510) ∧ w'.cell? ⟨gb491, 0, none⟩ = some (.int .i64 t484) ∧ w'.cell? ⟨gb491, 1, none⟩ = some (.int .u64 t485) ∧ w'.cell? ⟨gb491, 2, none⟩ = some (.slice (some ad517) t486.length co31) ∧ w'.cell? ⟨gb491, 3, none⟩ = some (.int .i64 t489) ∧ w'.cell? (ad517.add (((ji124)).toNat * 6)) = some (.int .i64 ((rd_T93 t486 (ji124)).f0.f0)) ∧ w'.cell? ⟨(ad517.add (((ji124)).toNat * 6)).block, (ad517.add (((ji124)).toNat * 6)).off + 1, none⟩ = some (.int .u64 ((rd_T93 t486 (ji124)).f0.f1)) ∧ w'.cell? ⟨(ad517.add (((ji124)).toNat * 6)).block, (ad517.add (((ji124)).toNat * 6)).off + 2, none⟩ = some (.int .u64 ((rd_T93 t486 (ji124)).f0.f2)) ∧ w'.cell? ⟨(ad517.add (((ji124)).toNat * 6)).block, (ad517.add (((ji124)).toNat * 6)).off + 3, none⟩ = some (.slice A517_3 ((rd_T93 t486 (ji124)).f0.f3).length c517_3) ∧ w'.cell? ⟨(ad517.add (((ji124)).toNat * 6)).block, (ad517.add (((ji124)).toNat * 6)).off + 4, none⟩ = some (.int .i64 ((rd_T93 t486 (ji124)).f1)) ∧ w'.cell? ⟨(ad517.add (((ji124)).toNat * 6)).block, (ad517.add (((ji124)).toNat * 6)).off + 5, none⟩ = some (.int .i64 ((rd_T93 t486 (ji124)).f2))) (ds := []) #[false, false, false, false, false, false, false, false, false, false, false, false, false, false, false, false, false, false, false, false, false, false, false, false, false, false, false, false, false, false, false, false, false] (by kernel_rfl) rfl rfl ⟨(blk_cell BK512.out 0).trans rfl, (blk_cell BK512.out 1).trans rfl, (blk_cell BK512.out 2).trans rfl, (blk_cell BK512.out 3).trans rfl, (blk_cell BK491.out 0).trans rfl, (blk_cell BK491.out 1).trans rfl, (blk_cell BK491.out 2).trans rfl, (blk_cell BK491.out 3).trans rfl, hx517_0, hx517_1, hx517_2, hx517_3, hx517_4, hx517_5⟩ (fun hHeld => ?_); refine with_tabW tiklaw16_SegBack.tab35 tiklaw16_SegBack.bits35 (fun HT_ HW_ => ?_)
                    generalize wr.drew = w127 at HO_492002 HO_513002 BK474 BK491 BK512 HB HL517_3 HR517_3 hx517_0 hx517_1 hx517_2 hx517_3 hx517_4 hx517_5 hHeld ⊢
                    refine one_ (i := 0) (N := some 213) #[true, false, false, false, false, false, false, false, false, false, false, false, false, false, false, false, false, false, false, false, false, false, false, false, false, false, false, false, false, false, false, false, false] rfl rfl (one_of HT_.out (by kernel_rfl)) (by decide) (fun K hK => ?_)
                    refine goes_ Tryd.func29 (by kernel_rfl) rfl #[] (by rfl) rfl rfl (by (try simp only [List.map_toArray, List.map_cons, List.map_nil]); first | done | rfl | (simp only [List.length_drop, List.length_take]; rfl)) ?_
                    with_reducible refine (tiklaw16_first.calls k6  true _ ?side1 A111.out).mono ?_
                    (case side1 => first | (with_reducible exact HT.out) | exact tabAt HT.out (by repeat (first | (with_reducible first | exact HB.out | apply below_alloc | apply pw_below_drewN | apply below_drew1 | refine below_set ?_ GE474.out | refine below_set ?_ GE491.out | refine below_set ?_ GE512.out) | exact HB.out)))
                    rintro e w128 ⟨rfl, hb⟩
                    have HS8_ := (hb.cell (World.block_lt_of_cell? _ _ (hHeld.2.2.2.2.2.2.2.2.1))).trans (hHeld.2.2.2.2.2.2.2.2.1); have HS9_ := (hb.cell (World.block_lt_of_cell? _ _ (hHeld.2.2.2.2.2.2.2.2.2.1))).trans (hHeld.2.2.2.2.2.2.2.2.2.1); have HS10_ := (hb.cell (World.block_lt_of_cell? _ _ (hHeld.2.2.2.2.2.2.2.2.2.2.1))).trans (hHeld.2.2.2.2.2.2.2.2.2.2.1); have HS11_ := (hb.cell (World.block_lt_of_cell? _ _ (hHeld.2.2.2.2.2.2.2.2.2.2.2.1))).trans (hHeld.2.2.2.2.2.2.2.2.2.2.2.1); have HS12_ := (hb.cell (World.block_lt_of_cell? _ _ (hHeld.2.2.2.2.2.2.2.2.2.2.2.2.1))).trans (hHeld.2.2.2.2.2.2.2.2.2.2.2.2.1); have HS13_ := (hb.cell (World.block_lt_of_cell? _ _ (hHeld.2.2.2.2.2.2.2.2.2.2.2.2.2))).trans (hHeld.2.2.2.2.2.2.2.2.2.2.2.2.2)
                    refine ⟨_, rfl, ?_⟩
                    have n0_ := Aside0.mk (Kd.S_below (by (with_reducible repeat (first | apply Kd.S_alloc | apply Kd.S_drewN | apply Kd.S_drew)); exact HO_492002.out) hb); have n1_ := Aside0.mk (Kd.S_below (by (with_reducible repeat (first | apply Kd.S_alloc | apply Kd.S_drewN | apply Kd.S_drew)); exact HO_513002.out) hb); have n2_ := Aside0.mk (blk_below (g := gb474) (o := .cells #[.int .i64 a0_0, .int .u64 a0_1] 63 (0, 0)) (by (with_reducible repeat (first | refine blk_drewN ?_ _ | refine blk_drew ?_ | refine blk_alloc ?_ _)); exact BK474.out) hb); have n3_ := Aside0.mk (blk_below (g := gb491) (o := .cells #[.int .i64 t484, .int .u64 t485, .slice (some ad517) t486.length co31, .int .i64 t489] 72 (0, 0)) (by (with_reducible repeat (first | refine blk_drewN ?_ _ | refine blk_drew ?_ | refine blk_alloc ?_ _)); exact BK491.out) hb); have n4_ := Aside0.mk (blk_below (g := gb512) (o := .cells #[.int .i64 t505, .int .u64 t506, .slice Ao96 t507.length co96, .int .i64 t510] 72 (0, 0)) (by (with_reducible repeat (first | refine blk_drewN ?_ _ | refine blk_drew ?_ | refine blk_alloc ?_ _)); exact BK512.out) hb); have n5_ := Aside0.mk (below_step (by repeat (first | (with_reducible first | exact HB.out | apply below_alloc | apply pw_below_drewN | apply below_drew1 | refine below_set ?_ GE474.out | refine below_set ?_ GE491.out | refine below_set ?_ GE512.out) | exact HB.out)) hb); clear HO_492002; clear HO_513002; clear BK474; clear BK491; clear BK512; clear HB; have HO_492002 := n0_; have HO_513002 := n1_; have BK474 := n2_; have BK491 := n3_; have BK512 := n4_; have HB := n5_; clear n0_ n1_ n2_ n3_ n4_ n5_
                    (try clear hb)
                    (try clear hb2)
                    (try clear hk)
                    (try clear hi)
                    refine hK.out _ _ ⟨(blk_cell BK512.out 0).trans rfl, (blk_cell BK512.out 1).trans rfl, (blk_cell BK512.out 2).trans rfl, (blk_cell BK512.out 3).trans rfl, (blk_cell BK491.out 0).trans rfl, (blk_cell BK491.out 1).trans rfl, (blk_cell BK491.out 2).trans rfl, (blk_cell BK491.out 3).trans rfl, HS8_, HS9_, HS10_, HS11_, HS12_, HS13_⟩ (fun hHeld => ?_)
                    clear hK K
                    refine norm_ (a' := ?_) ?_ ?_
                    rotate_left
                    ·show Act.put _ (some 213) _ = _
                     simp only [Act.put, List.setIfInBounds_toArray, List.set_cons_zero, List.set_cons_succ, i64_w, i32_w]
                     rfl
                    refine pure_ (i := 1) (N := some 214) (v := ?_) (a' := ?_) #[true, true, false, false, false, false, false, false, false, false, false, false, false, false, false, false, false, false, false, false, false, false, false, false, false, false, false, false, false, false, false, false, false] rfl rfl (any_of HT_.out (by kernel_rfl)) (fun _ _ _ h => h) (Or.inl ⟨by rfl, ?_⟩) ?_ ?_
                    rotate_left
                    ·intro w'
                     go_simp
                     with_reducible rfl
                    rotate_left
                    ·simp only [Act.put, List.setIfInBounds_toArray, List.set_cons_zero, List.set_cons_succ, i64_w, i32_w]
                     rfl
                    refine pure_ (i := 2) (N := some 215) (v := ?_) (a' := ?_) #[true, true, true, false, false, false, false, false, false, false, false, false, false, false, false, false, false, false, false, false, false, false, false, false, false, false, false, false, false, false, false, false, false] rfl rfl (any_of HT_.out (by kernel_rfl)) (fun _ _ _ h => h) (Or.inl ⟨by rfl, ?_⟩) ?_ ?_
                    rotate_left
                    ·intro w'
                     go_simp
                     with_reducible rfl
                    rotate_left
                    ·simp only [Act.put, List.setIfInBounds_toArray, List.set_cons_zero, List.set_cons_succ, i64_w, i32_w]
                     rfl
                    refine take_ (i := 3) (N := some 216) (v := ?_) (a' := ?_) #[true, true, true, true, false, false, false, false, false, false, false, false, false, false, false, false, false, false, false, false, false, false, false, false, false, false, false, false, false, false, false, false, false] rfl rfl (take_ofW HT_.out HW_.out (by kernel_rfl)) (fun _ _ _ h => h) (Or.inl ⟨by rfl, ?_⟩) hHeld ?_ ?_
                    rotate_left
                    ·rintro w' ⟨s0, s1, s2, s3, s4, s5, s6, s7, s8, s9, s10, s11, s12, s13⟩
                     go_simp
                     with_reducible rfl
                    rotate_left
                    ·simp only [Act.put, List.setIfInBounds_toArray, List.set_cons_zero, List.set_cons_succ, i64_w, i32_w]
                     rfl
                    refine pure_ (i := 4) (N := some 217) (v := ?_) (a' := ?_) #[true, true, true, true, true, false, false, false, false, false, false, false, false, false, false, false, false, false, false, false, false, false, false, false, false, false, false, false, false, false, false, false, false] rfl rfl (any_of HT_.out (by kernel_rfl)) (fun _ _ _ h => h) (Or.inl ⟨by rfl, ?_⟩) ?_ ?_
                    rotate_left
                    ·intro w'
                     go_simp
                     with_reducible rfl
                    rotate_left
                    ·simp only [Act.put, List.setIfInBounds_toArray, List.set_cons_zero, List.set_cons_succ, i64_w, i32_w]
                     rfl
                    refine pure_ (i := 5) (N := some 218) (v := ?_) (a' := ?_) #[true, true, true, true, true, true, false, false, false, false, false, false, false, false, false, false, false, false, false, false, false, false, false, false, false, false, false, false, false, false, false, false, false] rfl rfl (any_of HT_.out (by kernel_rfl)) (fun _ _ _ h => h) (Or.inl ⟨by rfl, ?_⟩) ?_ ?_
                    rotate_left
                    ·intro w'
                     go_simp
                     with_reducible rfl
                    rotate_left
                    ·simp only [Act.put, List.setIfInBounds_toArray, List.set_cons_zero, List.set_cons_succ, i64_w, i32_w]
                     rfl
                    refine pure_ (i := 6) (N := some 219) (v := ?_) (a' := ?_) #[true, true, true, true, true, true, true, false, false, false, false, false, false, false, false, false, false, false, false, false, false, false, false, false, false, false, false, false, false, false, false, false, false] rfl rfl (any_of HT_.out (by kernel_rfl)) (fun _ _ _ h => h) (Or.inl ⟨by rfl, ?_⟩) ?_ ?_
                    rotate_left
                    ·intro w'
                     go_simp
                     with_reducible rfl
                    rotate_left
                    ·simp only [Act.put, List.setIfInBounds_toArray, List.set_cons_zero, List.set_cons_succ, i64_w, i32_w]
                     rfl
                    refine pure_ (i := 7) (N := some 220) (v := undef) (a' := ?_) #[true, true, true, true, true, true, true, true, false, false, false, false, false, false, false, false, false, false, false, false, false, false, false, false, false, false, false, false, false, false, false, false, false] rfl rfl (any_of HT_.out (by kernel_rfl)) (fun _ _ _ h => h) (Or.inr ⟨by rfl, rfl⟩) ?_ ?_
                    rotate_left
                    ·simp only [Act.put, List.setIfInBounds_toArray, List.set_cons_zero, List.set_cons_succ, i64_w, i32_w]
                     rfl
                    refine pure_ (i := 8) (N := some 221) (v := undef) (a' := ?_) #[true, true, true, true, true, true, true, true, true, false, false, false, false, false, false, false, false, false, false, false, false, false, false, false, false, false, false, false, false, false, false, false, false] rfl rfl (any_of HT_.out (by kernel_rfl)) (fun _ _ _ h => h) (Or.inr ⟨by rfl, rfl⟩) ?_ ?_
                    rotate_left
                    ·simp only [Act.put, List.setIfInBounds_toArray, List.set_cons_zero, List.set_cons_succ, i64_w, i32_w]
                     rfl
                    refine pure_ (i := 9) (N := some 222) (v := undef) (a' := ?_) #[true, true, true, true, true, true, true, true, true, true, false, false, false, false, false, false, false, false, false, false, false, false, false, false, false, false, false, false, false, false, false, false, false] rfl rfl (any_of HT_.out (by kernel_rfl)) (fun _ _ _ h => h) (Or.inr ⟨by rfl, rfl⟩) ?_ ?_
                    rotate_left
                    ·simp only [Act.put, List.setIfInBounds_toArray, List.set_cons_zero, List.set_cons_succ, i64_w, i32_w]
                     rfl
                    refine pure_ (i := 10) (N := some 223) (v := ?_) (a' := ?_) #[true, true, true, true, true, true, true, true, true, true, true, false, false, false, false, false, false, false, false, false, false, false, false, false, false, false, false, false, false, false, false, false, false] rfl rfl (any_of HT_.out (by kernel_rfl)) (fun _ _ _ h => h) (Or.inl ⟨by rfl, ?_⟩) ?_ ?_
                    rotate_left
                    ·intro w'
                     go_simp
                     with_reducible rfl
                    rotate_left
                    ·simp only [Act.put, List.setIfInBounds_toArray, List.set_cons_zero, List.set_cons_succ, i64_w, i32_w]
                     rfl
                    refine pure_ (i := 11) (N := some 224) (v := ?_) (a' := ?_) #[true, true, true, true, true, true, true, true, true, true, true, true, false, false, false, false, false, false, false, false, false, false, false, false, false, false, false, false, false, false, false, false, false] rfl rfl (any_of HT_.out (by kernel_rfl)) (fun _ _ _ h => h) (Or.inl ⟨by rfl, ?_⟩) ?_ ?_
                    rotate_left
                    ·intro w'
                     go_simp
                     with_reducible rfl
                    rotate_left
                    ·simp only [Act.put, List.setIfInBounds_toArray, List.set_cons_zero, List.set_cons_succ, i64_w, i32_w]
                     rfl
                    refine pure_ (i := 12) (N := some 225) (v := ?_) (a' := ?_) #[true, true, true, true, true, true, true, true, true, true, true, true, true, false, false, false, false, false, false, false, false, false, false, false, false, false, false, false, false, false, false, false, false] rfl rfl (any_of HT_.out (by kernel_rfl)) (fun _ _ _ h => h) (Or.inl ⟨by rfl, ?_⟩) ?_ ?_
                    rotate_left
                    ·intro w'
                     go_simp
                     with_reducible rfl
                    rotate_left
                    ·simp only [Act.put, List.setIfInBounds_toArray, List.set_cons_zero, List.set_cons_succ, i64_w, i32_w]
                     rfl
                    refine take_ (i := 13) (N := some 226) (v := ?_) (a' := ?_) #[true, true, true, true, true, true, true, true, true, true, true, true, true, true, false, false, false, false, false, false, false, false, false, false, false, false, false, false, false, false, false, false, false] rfl rfl (take_ofW HT_.out HW_.out (by kernel_rfl)) (fun _ _ _ h => h) (Or.inl ⟨by rfl, ?_⟩) hHeld ?_ ?_
                    rotate_left
                    ·rintro w' ⟨s0, s1, s2, s3, s4, s5, s6, s7, s8, s9, s10, s11, s12, s13⟩
                     go_simp
                     with_reducible rfl
                    rotate_left
                    ·simp only [Act.put, List.setIfInBounds_toArray, List.set_cons_zero, List.set_cons_succ, i64_w, i32_w]
                     rfl
                    refine pure_ (i := 14) (N := some 227) (v := ?_) (a' := ?_) #[true, true, true, true, true, true, true, true, true, true, true, true, true, true, true, false, false, false, false, false, false, false, false, false, false, false, false, false, false, false, false, false, false] rfl rfl (any_of HT_.out (by kernel_rfl)) (fun _ _ _ h => h) (Or.inl ⟨by rfl, ?_⟩) ?_ ?_
                    rotate_left
                    ·intro w'
                     go_simp
                     with_reducible rfl
                    rotate_left
                    ·simp only [Act.put, List.setIfInBounds_toArray, List.set_cons_zero, List.set_cons_succ, i64_w, i32_w]
                     rfl
                    refine pure_ (i := 15) (N := some 228) (v := ?_) (a' := ?_) #[true, true, true, true, true, true, true, true, true, true, true, true, true, true, true, true, false, false, false, false, false, false, false, false, false, false, false, false, false, false, false, false, false] rfl rfl (any_of HT_.out (by kernel_rfl)) (fun _ _ _ h => h) (Or.inl ⟨by rfl, ?_⟩) ?_ ?_
                    rotate_left
                    ·intro w'
                     go_simp
                     with_reducible rfl
                    rotate_left
                    ·simp only [Act.put, List.setIfInBounds_toArray, List.set_cons_zero, List.set_cons_succ, i64_w, i32_w]
                     rfl
                    refine pure_ (i := 16) (N := some 229) (v := ?_) (a' := ?_) #[true, true, true, true, true, true, true, true, true, true, true, true, true, true, true, true, true, false, false, false, false, false, false, false, false, false, false, false, false, false, false, false, false] rfl rfl (any_of HT_.out (by kernel_rfl)) (fun _ _ _ h => h) (Or.inl ⟨by rfl, ?_⟩) ?_ ?_
                    rotate_left
                    ·intro w'
                     go_simp
                     with_reducible rfl
                    rotate_left
                    ·simp only [Act.put, List.setIfInBounds_toArray, List.set_cons_zero, List.set_cons_succ, i64_w, i32_w]
                     rfl
                    refine pure_ (i := 17) (N := some 230) (v := ?_) (a' := ?_) #[true, true, true, true, true, true, true, true, true, true, true, true, true, true, true, true, true, true, false, false, false, false, false, false, false, false, false, false, false, false, false, false, false] rfl rfl (any_of HT_.out (by kernel_rfl)) (fun _ _ _ h => h) (Or.inl ⟨by rfl, ?_⟩) ?_ ?_
                    rotate_left
                    ·intro w'
                     go_simp
                     with_reducible rfl
                    rotate_left
                    ·simp only [Act.put, List.setIfInBounds_toArray, List.set_cons_zero, List.set_cons_succ, i64_w, i32_w]
                     rfl
                    refine pure_ (i := 19) (N := some 232) (v := ?_) (a' := ?_) #[true, true, true, true, true, true, true, true, true, true, true, true, true, true, true, true, true, true, false, true, false, false, false, false, false, false, false, false, false, false, false, false, false] rfl rfl (any_of HT_.out (by kernel_rfl)) (fun _ _ _ h => h) (Or.inl ⟨by rfl, ?_⟩) ?_ ?_
                    rotate_left
                    ·intro w'
                     go_simp
                     with_reducible rfl
                    rotate_left
                    ·simp only [Act.put, List.setIfInBounds_toArray, List.set_cons_zero, List.set_cons_succ, i64_w, i32_w]
                     rfl
                    refine pure_ (i := 21) (N := some 234) (v := ?_) (a' := ?_) #[true, true, true, true, true, true, true, true, true, true, true, true, true, true, true, true, true, true, false, true, false, true, false, false, false, false, false, false, false, false, false, false, false] rfl rfl (any_of HT_.out (by kernel_rfl)) (fun _ _ _ h => h) (Or.inl ⟨by rfl, ?_⟩) ?_ ?_
                    rotate_left
                    ·intro w'
                     go_simp
                     with_reducible rfl
                    rotate_left
                    ·simp only [Act.put, List.setIfInBounds_toArray, List.set_cons_zero, List.set_cons_succ, i64_w, i32_w]
                     rfl
                    refine take_ (i := 18) (N := some 231) (v := ?_) (a' := ?_) #[true, true, true, true, true, true, true, true, true, true, true, true, true, true, true, true, true, true, true, true, false, true, false, false, false, false, false, false, false, false, false, false, false] rfl rfl (take_ofW HT_.out HW_.out (by kernel_rfl)) (fun _ _ _ h => h) (Or.inl ⟨by rfl, ?_⟩) hHeld ?_ ?_
                    rotate_left
                    ·rintro w' ⟨s0, s1, s2, s3, s4, s5, s6, s7, s8, s9, s10, s11, s12, s13⟩
                     go_simp
                     with_reducible rfl
                    rotate_left
                    ·simp only [Act.put, List.setIfInBounds_toArray, List.set_cons_zero, List.set_cons_succ, i64_w, i32_w]
                     rfl
                    refine take_ (i := 20) (N := some 233) (v := ?_) (a' := ?_) #[true, true, true, true, true, true, true, true, true, true, true, true, true, true, true, true, true, true, true, true, true, true, false, false, false, false, false, false, false, false, false, false, false] rfl rfl (take_ofW HT_.out HW_.out (by kernel_rfl)) (fun _ _ _ h => h) (Or.inl ⟨by rfl, ?_⟩) hHeld ?_ ?_
                    rotate_left
                    ·rintro w' ⟨s0, s1, s2, s3, s4, s5, s6, s7, s8, s9, s10, s11, s12, s13⟩
                     go_simp
                     with_reducible rfl
                    rotate_left
                    ·simp only [Act.put, List.setIfInBounds_toArray, List.set_cons_zero, List.set_cons_succ, i64_w, i32_w]
                     rfl
                    refine take_ (i := 22) (N := some 235) (v := ?_) (a' := ?_) #[true, true, true, true, true, true, true, true, true, true, true, true, true, true, true, true, true, true, true, true, true, true, true, false, false, false, false, false, false, false, false, false, false] rfl rfl (take_ofW HT_.out HW_.out (by kernel_rfl)) (fun _ _ _ h => h) (Or.inl ⟨by rfl, ?_⟩) hHeld ?_ ?_
                    rotate_left
                    ·rintro w' ⟨s0, s1, s2, s3, s4, s5, s6, s7, s8, s9, s10, s11, s12, s13⟩
                     go_simp
                     with_reducible rfl
                    rotate_left
                    ·simp only [Act.put, List.setIfInBounds_toArray, List.set_cons_zero, List.set_cons_succ, i64_w, i32_w]
                     rfl
                    refine pure_ (i := 23) (N := some 236) (v := ?_) (a' := ?_) #[true, true, true, true, true, true, true, true, true, true, true, true, true, true, true, true, true, true, true, true, true, true, true, true, false, false, false, false, false, false, false, false, false] rfl rfl (any_of HT_.out (by kernel_rfl)) (fun _ _ _ h => h) (Or.inl ⟨by rfl, ?_⟩) ?_ ?_
                    rotate_left
                    ·intro w'
                     go_simp
                     with_reducible rfl
                    rotate_left
                    ·simp only [Act.put, List.setIfInBounds_toArray, List.set_cons_zero, List.set_cons_succ, i64_w, i32_w]
                     rfl
                    refine pure_ (i := 24) (N := some 237) (v := ?_) (a' := ?_) #[true, true, true, true, true, true, true, true, true, true, true, true, true, true, true, true, true, true, true, true, true, true, true, true, true, false, false, false, false, false, false, false, false] rfl rfl (any_of HT_.out (by kernel_rfl)) (fun _ _ _ h => h) (Or.inl ⟨by rfl, ?_⟩) ?_ ?_
                    rotate_left
                    ·intro w'
                     go_simp
                     with_reducible rfl
                    rotate_left
                    ·simp only [Act.put, List.setIfInBounds_toArray, List.set_cons_zero, List.set_cons_succ, i64_w, i32_w]
                     rfl
                    refine pure_ (i := 25) (N := some 238) (v := ?_) (a' := ?_) #[true, true, true, true, true, true, true, true, true, true, true, true, true, true, true, true, true, true, true, true, true, true, true, true, true, true, false, false, false, false, false, false, false] rfl rfl (any_of HT_.out (by kernel_rfl)) (fun _ _ _ h => h) (Or.inl ⟨by rfl, ?_⟩) ?_ ?_
                    rotate_left
                    ·intro w'
                     go_simp
                     with_reducible rfl
                    rotate_left
                    ·simp only [Act.put, List.setIfInBounds_toArray, List.set_cons_zero, List.set_cons_succ, i64_w, i32_w]
                     rfl
                    refine pure_ (i := 26) (N := some 239) (v := ?_) (a' := ?_) #[true, true, true, true, true, true, true, true, true, true, true, true, true, true, true, true, true, true, true, true, true, true, true, true, true, true, true, false, false, false, false, false, false] rfl rfl (any_of HT_.out (by kernel_rfl)) (fun _ _ _ h => h) (Or.inl ⟨by rfl, ?_⟩) ?_ ?_
                    rotate_left
                    ·intro w'
                     go_simp
                     with_reducible rfl
                    rotate_left
                    ·simp only [Act.put, List.setIfInBounds_toArray, List.set_cons_zero, List.set_cons_succ, i64_w, i32_w]
                     rfl
                    refine take_ (i := 27) (N := some 240) (v := ?_) (a' := ?_) #[true, true, true, true, true, true, true, true, true, true, true, true, true, true, true, true, true, true, true, true, true, true, true, true, true, true, true, true, false, false, false, false, false] rfl rfl (take_ofW HT_.out HW_.out (by kernel_rfl)) (fun _ _ _ h => h) (Or.inl ⟨by rfl, ?_⟩) hHeld ?_ ?_
                    rotate_left
                    ·rintro w' ⟨s0, s1, s2, s3, s4, s5, s6, s7, s8, s9, s10, s11, s12, s13⟩
                     go_simp
                     with_reducible rfl
                    rotate_left
                    ·simp only [Act.put, List.setIfInBounds_toArray, List.set_cons_zero, List.set_cons_succ, i64_w, i32_w]
                     rfl
                    refine pure_ (i := 28) (N := some 241) (v := ?_) (a' := ?_) #[true, true, true, true, true, true, true, true, true, true, true, true, true, true, true, true, true, true, true, true, true, true, true, true, true, true, true, true, true, false, false, false, false] rfl rfl (any_of HT_.out (by kernel_rfl)) (fun _ _ _ h => h) (Or.inl ⟨by rfl, ?_⟩) ?_ ?_
                    rotate_left
                    ·intro w'
                     go_simp
                     with_reducible rfl
                    rotate_left
                    ·simp only [Act.put, List.setIfInBounds_toArray, List.set_cons_zero, List.set_cons_succ, i64_w, i32_w]
                     rfl
                    refine pure_ (i := 29) (N := some 242) (v := ?_) (a' := ?_) #[true, true, true, true, true, true, true, true, true, true, true, true, true, true, true, true, true, true, true, true, true, true, true, true, true, true, true, true, true, true, false, false, false] rfl rfl (any_of HT_.out (by kernel_rfl)) (fun _ _ _ h => h) (Or.inl ⟨by rfl, ?_⟩) ?_ ?_
                    rotate_left
                    ·intro w'
                     go_simp
                     with_reducible rfl
                    rotate_left
                    ·simp only [Act.put, List.setIfInBounds_toArray, List.set_cons_zero, List.set_cons_succ, i64_w, i32_w]
                     rfl
                    refine pure_ (i := 30) (N := some 243) (v := ?_) (a' := ?_) #[true, true, true, true, true, true, true, true, true, true, true, true, true, true, true, true, true, true, true, true, true, true, true, true, true, true, true, true, true, true, true, false, false] rfl rfl (any_of HT_.out (by kernel_rfl)) (fun _ _ _ h => h) (Or.inl ⟨by rfl, ?_⟩) ?_ ?_
                    rotate_left
                    ·intro w'
                     go_simp
                     with_reducible rfl
                    rotate_left
                    ·simp only [Act.put, List.setIfInBounds_toArray, List.set_cons_zero, List.set_cons_succ, i64_w, i32_w]
                     rfl
                    refine pure_ (i := 31) (N := some 244) (v := ?_) (a' := ?_) #[true, true, true, true, true, true, true, true, true, true, true, true, true, true, true, true, true, true, true, true, true, true, true, true, true, true, true, true, true, true, true, true, false] rfl rfl (any_of HT_.out (by kernel_rfl)) (fun _ _ _ h => h) (Or.inl ⟨by rfl, ?_⟩) ?_ ?_
                    rotate_left
                    ·intro w'
                     go_simp
                     with_reducible rfl
                    rotate_left
                    ·simp only [Act.put, List.setIfInBounds_toArray, List.set_cons_zero, List.set_cons_succ, i64_w, i32_w]
                     rfl
                    refine pure_ (i := 32) (N := some 6) (v := ?_) (a' := ?_) #[true, true, true, true, true, true, true, true, true, true, true, true, true, true, true, true, true, true, true, true, true, true, true, true, true, true, true, true, true, true, true, true, true] rfl rfl (any_of HT_.out (by kernel_rfl)) (fun _ _ _ h => h) (Or.inl ⟨by rfl, ?_⟩) ?_ ?_
                    rotate_left
                    ·intro w'
                     go_simp
                     with_reducible rfl
                    rotate_left
                    ·simp only [Act.put, List.setIfInBounds_toArray, List.set_cons_zero, List.set_cons_succ, i64_w, i32_w]
                     rfl
                    refine done_ (done_of HT_.out (by kernel_rfl)) ?_
                    try go_wp2
                    go_ret
                    exact ⟨by first | rfl | (simp [errW_none, errW_some] <;> rfl) | (simp only [← hji72, ← hji124]; first | rfl | (simp [errW_none, errW_some] <;> rfl)) | (simp [*, errW_none, errW_some] <;> rfl), by repeat (first | (with_reducible first | exact HB.out | apply below_alloc | apply pw_below_drewN | apply below_drew1 | refine below_set ?_ GE474.out | refine below_set ?_ GE491.out | refine below_set ?_ GE512.out) | exact HB.out)⟩
                   rw [if_pos c113] at H
                   have c113b0 : ((t507.length : Int) == 0) = true := beq_iff_eq.mpr c113
                   have c113b1 : ((t507.length : Int) != 0) = false := bne_eq_false_iff_eq.mpr c113
                   clear c113
                   by_cases c114 : t510 = 20
                   ·rw [if_pos c114] at H
                    have c114b0 : (t510 == 20) = true := beq_iff_eq.mpr c114
                    have c114b1 : (t510 != 20) = false := bne_eq_false_iff_eq.mpr c114
                    clear c114
                    obtain rfl := Option.some.inj H
                    try go_wp2
                    have n0_ := Aside0.mk (Kd.S_drew HO_492002.out); have n1_ := Aside0.mk (Kd.S_drew HO_513002.out); have n2_ := Aside0.mk (blk_drew BK474.out); have n3_ := Aside0.mk (blk_drew BK491.out); have n4_ := Aside0.mk (blk_drew BK512.out); have n5_ := Aside0.mk (below_drew1 HB.out); clear HO_492002; clear HO_513002; clear BK474; clear BK491; clear BK512; clear HB; have HO_492002 := n0_; have HO_513002 := n1_; have BK474 := n2_; have BK491 := n3_; have BK512 := n4_; have HB := n5_; clear n0_ n1_ n2_ n3_ n4_ n5_
                    refine start_ (n := 33) (S := fun w' => w'.cell? ⟨gb512, 0, none⟩ = some (.int .i64 t505) ∧ w'.cell? ⟨gb512, 1, none⟩ = some (.int .u64 t506) ∧ w'.cell? ⟨gb512, 2, none⟩ = some (.slice Ao96 t507.length co96) ∧ w'.cell? ⟨gb512, 3, none⟩ = some (.int .i64 t510)) (ds := []) #[false, false, false, false, false, false, false, false, false, false, false, false, false, false, false, false, false, false, false, false, false, false, false, false, false, false, false, false, false, false, false, false, false] (by kernel_rfl) rfl rfl ⟨(blk_cell BK512.out 0).trans rfl, (blk_cell BK512.out 1).trans rfl, (blk_cell BK512.out 2).trans rfl, (blk_cell BK512.out 3).trans rfl⟩ (fun hHeld => ?_); refine with_tabW tiklaw16_SegBack.tab35 tiklaw16_SegBack.bits35 (fun HT_ HW_ => ?_)
                    generalize wr.drew = w115 at HO_492002 HO_513002 BK474 BK491 BK512 HB hHeld ⊢
                    refine one_ (i := 0) (N := some 213) #[true, false, false, false, false, false, false, false, false, false, false, false, false, false, false, false, false, false, false, false, false, false, false, false, false, false, false, false, false, false, false, false, false] rfl rfl (one_of HT_.out (by kernel_rfl)) (by decide) (fun K hK => ?_)
                    refine goes_ Tryd.func29 (by kernel_rfl) rfl #[] (by rfl) rfl rfl (by (try simp only [List.map_toArray, List.map_cons, List.map_nil]); first | done | rfl | (simp only [List.length_drop, List.length_take]; rfl)) ?_
                    with_reducible refine (tiklaw16_first.calls k6  true _ ?side1 A111.out).mono ?_
                    (case side1 => first | (with_reducible exact HT.out) | exact tabAt HT.out (by repeat (first | (with_reducible first | exact HB.out | apply below_alloc | apply pw_below_drewN | apply below_drew1 | refine below_set ?_ GE474.out | refine below_set ?_ GE491.out | refine below_set ?_ GE512.out) | exact HB.out)))
                    rintro e w116 ⟨rfl, hb⟩
                    refine ⟨_, rfl, ?_⟩
                    have n0_ := Aside0.mk (Kd.S_below (by (with_reducible repeat (first | apply Kd.S_alloc | apply Kd.S_drewN | apply Kd.S_drew)); exact HO_492002.out) hb); have n1_ := Aside0.mk (Kd.S_below (by (with_reducible repeat (first | apply Kd.S_alloc | apply Kd.S_drewN | apply Kd.S_drew)); exact HO_513002.out) hb); have n2_ := Aside0.mk (blk_below (g := gb474) (o := .cells #[.int .i64 a0_0, .int .u64 a0_1] 63 (0, 0)) (by (with_reducible repeat (first | refine blk_drewN ?_ _ | refine blk_drew ?_ | refine blk_alloc ?_ _)); exact BK474.out) hb); have n3_ := Aside0.mk (blk_below (g := gb491) (o := .cells #[.int .i64 t484, .int .u64 t485, .slice Ao31 t486.length co31, .int .i64 t489] 72 (0, 0)) (by (with_reducible repeat (first | refine blk_drewN ?_ _ | refine blk_drew ?_ | refine blk_alloc ?_ _)); exact BK491.out) hb); have n4_ := Aside0.mk (blk_below (g := gb512) (o := .cells #[.int .i64 t505, .int .u64 t506, .slice Ao96 t507.length co96, .int .i64 t510] 72 (0, 0)) (by (with_reducible repeat (first | refine blk_drewN ?_ _ | refine blk_drew ?_ | refine blk_alloc ?_ _)); exact BK512.out) hb); have n5_ := Aside0.mk (below_step (by repeat (first | (with_reducible first | exact HB.out | apply below_alloc | apply pw_below_drewN | apply below_drew1 | refine below_set ?_ GE474.out | refine below_set ?_ GE491.out | refine below_set ?_ GE512.out) | exact HB.out)) hb); clear HO_492002; clear HO_513002; clear BK474; clear BK491; clear BK512; clear HB; have HO_492002 := n0_; have HO_513002 := n1_; have BK474 := n2_; have BK491 := n3_; have BK512 := n4_; have HB := n5_; clear n0_ n1_ n2_ n3_ n4_ n5_
                    (try clear hb)
                    (try clear hb2)
                    (try clear hk)
                    (try clear hi)
                    refine hK.out _ _ ⟨(blk_cell BK512.out 0).trans rfl, (blk_cell BK512.out 1).trans rfl, (blk_cell BK512.out 2).trans rfl, (blk_cell BK512.out 3).trans rfl⟩ (fun hHeld => ?_)
                    clear hK K
                    refine norm_ (a' := ?_) ?_ ?_
                    rotate_left
                    ·show Act.put _ (some 213) _ = _
                     simp only [Act.put, List.setIfInBounds_toArray, List.set_cons_zero, List.set_cons_succ, i64_w, i32_w]
                     rfl
                    refine pure_ (i := 1) (N := some 214) (v := ?_) (a' := ?_) #[true, true, false, false, false, false, false, false, false, false, false, false, false, false, false, false, false, false, false, false, false, false, false, false, false, false, false, false, false, false, false, false, false] rfl rfl (any_of HT_.out (by kernel_rfl)) (fun _ _ _ h => h) (Or.inl ⟨by rfl, ?_⟩) ?_ ?_
                    rotate_left
                    ·intro w'
                     go_simp
                     with_reducible rfl
                    rotate_left
                    ·simp only [Act.put, List.setIfInBounds_toArray, List.set_cons_zero, List.set_cons_succ, i64_w, i32_w]
                     rfl
                    refine pure_ (i := 2) (N := some 215) (v := ?_) (a' := ?_) #[true, true, true, false, false, false, false, false, false, false, false, false, false, false, false, false, false, false, false, false, false, false, false, false, false, false, false, false, false, false, false, false, false] rfl rfl (any_of HT_.out (by kernel_rfl)) (fun _ _ _ h => h) (Or.inl ⟨by rfl, ?_⟩) ?_ ?_
                    rotate_left
                    ·intro w'
                     go_simp
                     with_reducible rfl
                    rotate_left
                    ·simp only [Act.put, List.setIfInBounds_toArray, List.set_cons_zero, List.set_cons_succ, i64_w, i32_w]
                     rfl
                    refine take_ (i := 3) (N := some 216) (v := ?_) (a' := ?_) #[true, true, true, true, false, false, false, false, false, false, false, false, false, false, false, false, false, false, false, false, false, false, false, false, false, false, false, false, false, false, false, false, false] rfl rfl (take_ofW HT_.out HW_.out (by kernel_rfl)) (fun _ _ _ h => h) (Or.inl ⟨by rfl, ?_⟩) hHeld ?_ ?_
                    rotate_left
                    ·rintro w' ⟨s0, s1, s2, s3⟩
                     go_simp
                     with_reducible rfl
                    rotate_left
                    ·simp only [Act.put, List.setIfInBounds_toArray, List.set_cons_zero, List.set_cons_succ, i64_w, i32_w]
                     rfl
                    refine pure_ (i := 4) (N := some 217) (v := ?_) (a' := ?_) #[true, true, true, true, true, false, false, false, false, false, false, false, false, false, false, false, false, false, false, false, false, false, false, false, false, false, false, false, false, false, false, false, false] rfl rfl (any_of HT_.out (by kernel_rfl)) (fun _ _ _ h => h) (Or.inl ⟨by rfl, ?_⟩) ?_ ?_
                    rotate_left
                    ·intro w'
                     go_simp
                     with_reducible rfl
                    rotate_left
                    ·simp only [Act.put, List.setIfInBounds_toArray, List.set_cons_zero, List.set_cons_succ, i64_w, i32_w]
                     rfl
                    refine pure_ (i := 5) (N := some 218) (v := ?_) (a' := ?_) #[true, true, true, true, true, true, false, false, false, false, false, false, false, false, false, false, false, false, false, false, false, false, false, false, false, false, false, false, false, false, false, false, false] rfl rfl (any_of HT_.out (by kernel_rfl)) (fun _ _ _ h => h) (Or.inl ⟨by rfl, ?_⟩) ?_ ?_
                    rotate_left
                    ·intro w'
                     go_simp
                     with_reducible rfl
                    rotate_left
                    ·simp only [Act.put, List.setIfInBounds_toArray, List.set_cons_zero, List.set_cons_succ, i64_w, i32_w]
                     rfl
                    refine pure_ (i := 6) (N := some 219) (v := ?_) (a' := ?_) #[true, true, true, true, true, true, true, false, false, false, false, false, false, false, false, false, false, false, false, false, false, false, false, false, false, false, false, false, false, false, false, false, false] rfl rfl (any_of HT_.out (by kernel_rfl)) (fun _ _ _ h => h) (Or.inl ⟨by rfl, ?_⟩) ?_ ?_
                    rotate_left
                    ·intro w'
                     go_simp
                     with_reducible rfl
                    rotate_left
                    ·simp only [Act.put, List.setIfInBounds_toArray, List.set_cons_zero, List.set_cons_succ, i64_w, i32_w]
                     rfl
                    refine pure_ (i := 7) (N := some 220) (v := ?_) (a' := ?_) #[true, true, true, true, true, true, true, true, false, false, false, false, false, false, false, false, false, false, false, false, false, false, false, false, false, false, false, false, false, false, false, false, false] rfl rfl (any_of HT_.out (by kernel_rfl)) (fun _ _ _ h => h) (Or.inl ⟨by rfl, ?_⟩) ?_ ?_
                    rotate_left
                    ·intro w'
                     go_simp
                     with_reducible rfl
                    rotate_left
                    ·simp only [Act.put, List.setIfInBounds_toArray, List.set_cons_zero, List.set_cons_succ, i64_w, i32_w]
                     rfl
                    refine take_ (i := 8) (N := some 221) (v := ?_) (a' := ?_) #[true, true, true, true, true, true, true, true, true, false, false, false, false, false, false, false, false, false, false, false, false, false, false, false, false, false, false, false, false, false, false, false, false] rfl rfl (take_ofW HT_.out HW_.out (by kernel_rfl)) (fun _ _ _ h => h) (Or.inl ⟨by rfl, ?_⟩) hHeld ?_ ?_
                    rotate_left
                    ·rintro w' ⟨s0, s1, s2, s3⟩
                     go_simp
                     with_reducible rfl
                    rotate_left
                    ·simp only [Act.put, List.setIfInBounds_toArray, List.set_cons_zero, List.set_cons_succ, i64_w, i32_w]
                     rfl
                    refine pure_ (i := 9) (N := some 222) (v := ?_) (a' := ?_) #[true, true, true, true, true, true, true, true, true, true, false, false, false, false, false, false, false, false, false, false, false, false, false, false, false, false, false, false, false, false, false, false, false] rfl rfl (any_of HT_.out (by kernel_rfl)) (fun _ _ _ h => h) (Or.inl ⟨by rfl, ?_⟩) ?_ ?_
                    rotate_left
                    ·intro w'
                     go_simp
                     with_reducible rfl
                    rotate_left
                    ·simp only [Act.put, List.setIfInBounds_toArray, List.set_cons_zero, List.set_cons_succ, i64_w, i32_w]
                     rfl
                    refine pure_ (i := 10) (N := some 223) (v := ?_) (a' := ?_) #[true, true, true, true, true, true, true, true, true, true, true, false, false, false, false, false, false, false, false, false, false, false, false, false, false, false, false, false, false, false, false, false, false] rfl rfl (any_of HT_.out (by kernel_rfl)) (fun _ _ _ h => h) (Or.inl ⟨by rfl, ?_⟩) ?_ ?_
                    rotate_left
                    ·intro w'
                     go_simp
                     with_reducible rfl
                    rotate_left
                    ·simp only [Act.put, List.setIfInBounds_toArray, List.set_cons_zero, List.set_cons_succ, i64_w, i32_w]
                     rfl
                    refine pure_ (i := 11) (N := some 224) (v := ?_) (a' := ?_) #[true, true, true, true, true, true, true, true, true, true, true, true, false, false, false, false, false, false, false, false, false, false, false, false, false, false, false, false, false, false, false, false, false] rfl rfl (any_of HT_.out (by kernel_rfl)) (fun _ _ _ h => h) (Or.inl ⟨by rfl, ?_⟩) ?_ ?_
                    rotate_left
                    ·intro w'
                     go_simp
                     with_reducible rfl
                    rotate_left
                    ·simp only [Act.put, List.setIfInBounds_toArray, List.set_cons_zero, List.set_cons_succ, i64_w, i32_w]
                     rfl
                    refine pure_ (i := 12) (N := some 225) (v := undef) (a' := ?_) #[true, true, true, true, true, true, true, true, true, true, true, true, true, false, false, false, false, false, false, false, false, false, false, false, false, false, false, false, false, false, false, false, false] rfl rfl (any_of HT_.out (by kernel_rfl)) (fun _ _ _ h => h) (Or.inr ⟨by rfl, rfl⟩) ?_ ?_
                    rotate_left
                    ·simp only [Act.put, List.setIfInBounds_toArray, List.set_cons_zero, List.set_cons_succ, i64_w, i32_w]
                     rfl
                    refine pure_ (i := 13) (N := some 226) (v := undef) (a' := ?_) #[true, true, true, true, true, true, true, true, true, true, true, true, true, true, false, false, false, false, false, false, false, false, false, false, false, false, false, false, false, false, false, false, false] rfl rfl (any_of HT_.out (by kernel_rfl)) (fun _ _ _ h => h) (Or.inr ⟨by rfl, rfl⟩) ?_ ?_
                    rotate_left
                    ·simp only [Act.put, List.setIfInBounds_toArray, List.set_cons_zero, List.set_cons_succ, i64_w, i32_w]
                     rfl
                    refine pure_ (i := 14) (N := some 227) (v := undef) (a' := ?_) #[true, true, true, true, true, true, true, true, true, true, true, true, true, true, true, false, false, false, false, false, false, false, false, false, false, false, false, false, false, false, false, false, false] rfl rfl (any_of HT_.out (by kernel_rfl)) (fun _ _ _ h => h) (Or.inr ⟨by rfl, rfl⟩) ?_ ?_
                    rotate_left
                    ·simp only [Act.put, List.setIfInBounds_toArray, List.set_cons_zero, List.set_cons_succ, i64_w, i32_w]
                     rfl
                    refine pure_ (i := 15) (N := some 228) (v := undef) (a' := ?_) #[true, true, true, true, true, true, true, true, true, true, true, true, true, true, true, true, false, false, false, false, false, false, false, false, false, false, false, false, false, false, false, false, false] rfl rfl (any_of HT_.out (by kernel_rfl)) (fun _ _ _ h => h) (Or.inr ⟨by rfl, rfl⟩) ?_ ?_
                    rotate_left
                    ·simp only [Act.put, List.setIfInBounds_toArray, List.set_cons_zero, List.set_cons_succ, i64_w, i32_w]
                     rfl
                    refine pure_ (i := 16) (N := some 229) (v := undef) (a' := ?_) #[true, true, true, true, true, true, true, true, true, true, true, true, true, true, true, true, true, false, false, false, false, false, false, false, false, false, false, false, false, false, false, false, false] rfl rfl (any_of HT_.out (by kernel_rfl)) (fun _ _ _ h => h) (Or.inr ⟨by rfl, rfl⟩) ?_ ?_
                    rotate_left
                    ·simp only [Act.put, List.setIfInBounds_toArray, List.set_cons_zero, List.set_cons_succ, i64_w, i32_w]
                     rfl
                    refine pure_ (i := 17) (N := some 230) (v := undef) (a' := ?_) #[true, true, true, true, true, true, true, true, true, true, true, true, true, true, true, true, true, true, false, false, false, false, false, false, false, false, false, false, false, false, false, false, false] rfl rfl (any_of HT_.out (by kernel_rfl)) (fun _ _ _ h => h) (Or.inr ⟨by rfl, rfl⟩) ?_ ?_
                    rotate_left
                    ·simp only [Act.put, List.setIfInBounds_toArray, List.set_cons_zero, List.set_cons_succ, i64_w, i32_w]
                     rfl
                    refine pure_ (i := 18) (N := some 231) (v := undef) (a' := ?_) #[true, true, true, true, true, true, true, true, true, true, true, true, true, true, true, true, true, true, true, false, false, false, false, false, false, false, false, false, false, false, false, false, false] rfl rfl (any_of HT_.out (by kernel_rfl)) (fun _ _ _ h => h) (Or.inr ⟨by rfl, rfl⟩) ?_ ?_
                    rotate_left
                    ·simp only [Act.put, List.setIfInBounds_toArray, List.set_cons_zero, List.set_cons_succ, i64_w, i32_w]
                     rfl
                    refine pure_ (i := 19) (N := some 232) (v := undef) (a' := ?_) #[true, true, true, true, true, true, true, true, true, true, true, true, true, true, true, true, true, true, true, true, false, false, false, false, false, false, false, false, false, false, false, false, false] rfl rfl (any_of HT_.out (by kernel_rfl)) (fun _ _ _ h => h) (Or.inr ⟨by rfl, rfl⟩) ?_ ?_
                    rotate_left
                    ·simp only [Act.put, List.setIfInBounds_toArray, List.set_cons_zero, List.set_cons_succ, i64_w, i32_w]
                     rfl
                    refine pure_ (i := 20) (N := some 233) (v := undef) (a' := ?_) #[true, true, true, true, true, true, true, true, true, true, true, true, true, true, true, true, true, true, true, true, true, false, false, false, false, false, false, false, false, false, false, false, false] rfl rfl (any_of HT_.out (by kernel_rfl)) (fun _ _ _ h => h) (Or.inr ⟨by rfl, rfl⟩) ?_ ?_
                    rotate_left
                    ·simp only [Act.put, List.setIfInBounds_toArray, List.set_cons_zero, List.set_cons_succ, i64_w, i32_w]
                     rfl
                    refine pure_ (i := 21) (N := some 234) (v := undef) (a' := ?_) #[true, true, true, true, true, true, true, true, true, true, true, true, true, true, true, true, true, true, true, true, true, true, false, false, false, false, false, false, false, false, false, false, false] rfl rfl (any_of HT_.out (by kernel_rfl)) (fun _ _ _ h => h) (Or.inr ⟨by rfl, rfl⟩) ?_ ?_
                    rotate_left
                    ·simp only [Act.put, List.setIfInBounds_toArray, List.set_cons_zero, List.set_cons_succ, i64_w, i32_w]
                     rfl
                    refine pure_ (i := 22) (N := some 235) (v := undef) (a' := ?_) #[true, true, true, true, true, true, true, true, true, true, true, true, true, true, true, true, true, true, true, true, true, true, true, false, false, false, false, false, false, false, false, false, false] rfl rfl (any_of HT_.out (by kernel_rfl)) (fun _ _ _ h => h) (Or.inr ⟨by rfl, rfl⟩) ?_ ?_
                    rotate_left
                    ·simp only [Act.put, List.setIfInBounds_toArray, List.set_cons_zero, List.set_cons_succ, i64_w, i32_w]
                     rfl
                    refine pure_ (i := 23) (N := some 236) (v := undef) (a' := ?_) #[true, true, true, true, true, true, true, true, true, true, true, true, true, true, true, true, true, true, true, true, true, true, true, true, false, false, false, false, false, false, false, false, false] rfl rfl (any_of HT_.out (by kernel_rfl)) (fun _ _ _ h => h) (Or.inr ⟨by rfl, rfl⟩) ?_ ?_
                    rotate_left
                    ·simp only [Act.put, List.setIfInBounds_toArray, List.set_cons_zero, List.set_cons_succ, i64_w, i32_w]
                     rfl
                    refine pure_ (i := 24) (N := some 237) (v := undef) (a' := ?_) #[true, true, true, true, true, true, true, true, true, true, true, true, true, true, true, true, true, true, true, true, true, true, true, true, true, false, false, false, false, false, false, false, false] rfl rfl (any_of HT_.out (by kernel_rfl)) (fun _ _ _ h => h) (Or.inr ⟨by rfl, rfl⟩) ?_ ?_
                    rotate_left
                    ·simp only [Act.put, List.setIfInBounds_toArray, List.set_cons_zero, List.set_cons_succ, i64_w, i32_w]
                     rfl
                    refine pure_ (i := 25) (N := some 238) (v := undef) (a' := ?_) #[true, true, true, true, true, true, true, true, true, true, true, true, true, true, true, true, true, true, true, true, true, true, true, true, true, true, false, false, false, false, false, false, false] rfl rfl (any_of HT_.out (by kernel_rfl)) (fun _ _ _ h => h) (Or.inr ⟨by rfl, rfl⟩) ?_ ?_
                    rotate_left
                    ·simp only [Act.put, List.setIfInBounds_toArray, List.set_cons_zero, List.set_cons_succ, i64_w, i32_w]
                     rfl
                    refine pure_ (i := 26) (N := some 239) (v := undef) (a' := ?_) #[true, true, true, true, true, true, true, true, true, true, true, true, true, true, true, true, true, true, true, true, true, true, true, true, true, true, true, false, false, false, false, false, false] rfl rfl (any_of HT_.out (by kernel_rfl)) (fun _ _ _ h => h) (Or.inr ⟨by rfl, rfl⟩) ?_ ?_
                    rotate_left
                    ·simp only [Act.put, List.setIfInBounds_toArray, List.set_cons_zero, List.set_cons_succ, i64_w, i32_w]
                     rfl
                    refine pure_ (i := 27) (N := some 240) (v := undef) (a' := ?_) #[true, true, true, true, true, true, true, true, true, true, true, true, true, true, true, true, true, true, true, true, true, true, true, true, true, true, true, true, false, false, false, false, false] rfl rfl (any_of HT_.out (by kernel_rfl)) (fun _ _ _ h => h) (Or.inr ⟨by rfl, rfl⟩) ?_ ?_
                    rotate_left
                    ·simp only [Act.put, List.setIfInBounds_toArray, List.set_cons_zero, List.set_cons_succ, i64_w, i32_w]
                     rfl
                    refine pure_ (i := 28) (N := some 241) (v := undef) (a' := ?_) #[true, true, true, true, true, true, true, true, true, true, true, true, true, true, true, true, true, true, true, true, true, true, true, true, true, true, true, true, true, false, false, false, false] rfl rfl (any_of HT_.out (by kernel_rfl)) (fun _ _ _ h => h) (Or.inr ⟨by rfl, rfl⟩) ?_ ?_
                    rotate_left
                    ·simp only [Act.put, List.setIfInBounds_toArray, List.set_cons_zero, List.set_cons_succ, i64_w, i32_w]
                     rfl
                    refine pure_ (i := 29) (N := some 242) (v := undef) (a' := ?_) #[true, true, true, true, true, true, true, true, true, true, true, true, true, true, true, true, true, true, true, true, true, true, true, true, true, true, true, true, true, true, false, false, false] rfl rfl (any_of HT_.out (by kernel_rfl)) (fun _ _ _ h => h) (Or.inr ⟨by rfl, rfl⟩) ?_ ?_
                    rotate_left
                    ·simp only [Act.put, List.setIfInBounds_toArray, List.set_cons_zero, List.set_cons_succ, i64_w, i32_w]
                     rfl
                    refine pure_ (i := 30) (N := some 243) (v := ?_) (a' := ?_) #[true, true, true, true, true, true, true, true, true, true, true, true, true, true, true, true, true, true, true, true, true, true, true, true, true, true, true, true, true, true, true, false, false] rfl rfl (any_of HT_.out (by kernel_rfl)) (fun _ _ _ h => h) (Or.inl ⟨by rfl, ?_⟩) ?_ ?_
                    rotate_left
                    ·intro w'
                     go_simp
                     with_reducible rfl
                    rotate_left
                    ·simp only [Act.put, List.setIfInBounds_toArray, List.set_cons_zero, List.set_cons_succ, i64_w, i32_w]
                     rfl
                    refine pure_ (i := 31) (N := some 244) (v := ?_) (a' := ?_) #[true, true, true, true, true, true, true, true, true, true, true, true, true, true, true, true, true, true, true, true, true, true, true, true, true, true, true, true, true, true, true, true, false] rfl rfl (any_of HT_.out (by kernel_rfl)) (fun _ _ _ h => h) (Or.inl ⟨by rfl, ?_⟩) ?_ ?_
                    rotate_left
                    ·intro w'
                     go_simp
                     with_reducible rfl
                    rotate_left
                    ·simp only [Act.put, List.setIfInBounds_toArray, List.set_cons_zero, List.set_cons_succ, i64_w, i32_w]
                     rfl
                    refine pure_ (i := 32) (N := some 6) (v := ?_) (a' := ?_) #[true, true, true, true, true, true, true, true, true, true, true, true, true, true, true, true, true, true, true, true, true, true, true, true, true, true, true, true, true, true, true, true, true] rfl rfl (any_of HT_.out (by kernel_rfl)) (fun _ _ _ h => h) (Or.inl ⟨by rfl, ?_⟩) ?_ ?_
                    rotate_left
                    ·intro w'
                     go_simp
                     with_reducible rfl
                    rotate_left
                    ·simp only [Act.put, List.setIfInBounds_toArray, List.set_cons_zero, List.set_cons_succ, i64_w, i32_w]
                     rfl
                    refine done_ (done_of HT_.out (by kernel_rfl)) ?_
                    try go_wp2
                    go_ret
                    exact ⟨by first | rfl | (simp [errW_none, errW_some] <;> rfl) | (simp only [← hji72]; first | rfl | (simp [errW_none, errW_some] <;> rfl)) | (simp [*, errW_none, errW_some] <;> rfl), by repeat (first | (with_reducible first | exact HB.out | apply below_alloc | apply pw_below_drewN | apply below_drew1 | refine below_set ?_ GE474.out | refine below_set ?_ GE491.out | refine below_set ?_ GE512.out) | exact HB.out)⟩
                   rw [if_neg c114] at H
                   have c114b0 : (t510 == 20) = false := beq_eq_false_iff_ne.mpr c114
                   have c114b1 : (t510 != 20) = true := bne_iff_ne.mpr c114
                   by_cases c117 : (t507.length : Int) > 0
                   rotate_left
                   ·rw [if_neg c117] at H
                    have c117b0 : decide (0 < (t507.length : Int)) = false := decide_eq_false c117
                    have c117b1 : decide (0 < t507.length) = false := decide_eq_false (by omega)
                    clear c117
                    exact absurd ((Option.some.inj H).trans hr_.out) (by simp)
                   rw [if_pos c117] at H
                   have c117b0 : decide (0 < (t507.length : Int)) = true := decide_eq_true c117
                   have c117b1 : decide (0 < t507.length) = true := decide_eq_true (by omega)
                   clear c117
                   obtain ⟨ji118, hji118⟩ : ∃ j_ : Int, (wrap64 ((t507.length : Int) - 1)) = j_ := ⟨_, rfl⟩
                   replace H : (if 0 ≤ (ji118) then (if (ji118) < (t486.length : Int) then (some (t510 == ((rd_T93 t486 (ji118)).f2))) else (none)) else (none)) = some r := by first | (rw [hji118] at H; exact H) | (simp only [hji118] at H ⊢; exact H)
                   (try rw [hji118] at A111)
                   have hji118w : (IntKind.i64.wrap ((t507.length : Int) - 1)) = ji118 := (i64_w _).trans hji118
                   by_cases c119 : 0 ≤ (ji118)
                   rotate_left
                   ·rw [if_neg c119] at H
                    exact absurd H (by simp)
                   rw [if_pos c119] at H
                   have c119b0 : decide (0 ≤ (ji118)) = true := decide_eq_true c119
                   clear c119
                   by_cases c120 : (ji118) < (t486.length : Int)
                   rotate_left
                   ·rw [if_neg c120] at H
                    exact absurd H (by simp)
                   rw [if_pos c120] at H
                   have c120b0 : decide ((ji118) < (t486.length : Int)) = true := decide_eq_true c120
                   clear c120
                   obtain rfl := Option.some.inj H
                   try go_wp2
                   have n0_ := Aside0.mk (Kd.S_drew HO_492002.out); have n1_ := Aside0.mk (Kd.S_drew HO_513002.out); have n2_ := Aside0.mk (blk_drew BK474.out); have n3_ := Aside0.mk (blk_drew BK491.out); have n4_ := Aside0.mk (blk_drew BK512.out); have n5_ := Aside0.mk (below_drew1 HB.out); clear HO_492002; clear HO_513002; clear BK474; clear BK491; clear BK512; clear HB; have HO_492002 := n0_; have HO_513002 := n1_; have BK474 := n2_; have BK491 := n3_; have BK512 := n4_; have HB := n5_; clear n0_ n1_ n2_ n3_ n4_ n5_
                   have p516 : 0 ≤ ((ji118) : Int) := of_decide_eq_true (by first | (with_reducible assumption) | assumption)
                   have q516 : (ji118) < (t486.length : Int) := of_decide_eq_true (by first | (with_reducible assumption) | assumption)
                   obtain ⟨ad516, A516_3, c516_3, e516, hx516_0, hx516_1, hx516_2, hx516_3, hx516_4, hx516_5, hl516_3, hi516_3⟩ := at_T93 (Kd.S_reads' HO_492002.out).2.2 (ji118) p516 q516
                   cases e516
                   obtain ⟨ce516, hce516, hMe516, hcc516⟩ := Kd.S_get HO_492002.out z93 (ji118) p516 (by first | exact q516 | exact of_decide_eq_true (by first | (with_reducible assumption) | assumption) | (have e_ := (Kd.S_reads' HO_492002.out).1; omega)); obtain ⟨ve516_3, rfl, ge516_3⟩ := k93_openM hMe516; have hv516_3 := hcc516 3 _ rfl; rw [add_field _ _ 3 (by omega)] at hv516_3
                   replace hv516_3 := Option.some.inj (hv516_3.symm.trans hx516_3)
                   rw [hv516_3] at ge516_3; have HL516_3 := Aside0.mk (show Kd.R (Kd.int .u8) 5 _ _ _ _ ((rd_T93 t486 (ji118)).f0.f3) from ge516_3); clear hv516_3 ge516_3; clear hcc516 hce516; have HR516_3 := Aside0.mk hi516_3; have HC516_3 := Aside0.mk hl516_3; clear hi516_3 hl516_3
                   replace p516 := eq_true p516
                   replace q516 := eq_true q516
                   refine start_ (n := 33) (S := fun w' => w'.cell? ⟨gb512, 0, none⟩ = some (.int .i64 t505) ∧ w'.cell? ⟨gb512, 1, none⟩ = some (.int .u64 t506) ∧ w'.cell? ⟨gb512, 2, none⟩ = some (.slice Ao96 t507.length co96) ∧ w'.cell? ⟨gb512, 3, none⟩ = some (.int .i64 t510) ∧ w'.cell? ⟨gb491, 0, none⟩ = some (.int .i64 t484) ∧ w'.cell? ⟨gb491, 1, none⟩ = some (.int .u64 t485) ∧ w'.cell? ⟨gb491, 2, none⟩ = some (.slice (some ad516) t486.length co31) ∧ w'.cell? ⟨gb491, 3, none⟩ = some (.int .i64 t489) ∧ w'.cell? (ad516.add (((ji118)).toNat * 6)) = some (.int .i64 ((rd_T93 t486 (ji118)).f0.f0)) ∧ w'.cell? ⟨(ad516.add (((ji118)).toNat * 6)).block, (ad516.add (((ji118)).toNat * 6)).off + 1, none⟩ = some (.int .u64 ((rd_T93 t486 (ji118)).f0.f1)) ∧ w'.cell? ⟨(ad516.add (((ji118)).toNat * 6)).block, (ad516.add (((ji118)).toNat * 6)).off + 2, none⟩ = some (.int .u64 ((rd_T93 t486 (ji118)).f0.f2)) ∧ w'.cell? ⟨(ad516.add (((ji118)).toNat * 6)).block, (ad516.add (((ji118)).toNat * 6)).off + 3, none⟩ = some (.slice A516_3 ((rd_T93 t486 (ji118)).f0.f3).length c516_3) ∧ w'.cell? ⟨(ad516.add (((ji118)).toNat * 6)).block, (ad516.add (((ji118)).toNat * 6)).off + 4, none⟩ = some (.int .i64 ((rd_T93 t486 (ji118)).f1)) ∧ w'.cell? ⟨(ad516.add (((ji118)).toNat * 6)).block, (ad516.add (((ji118)).toNat * 6)).off + 5, none⟩ = some (.int .i64 ((rd_T93 t486 (ji118)).f2))) (ds := []) #[false, false, false, false, false, false, false, false, false, false, false, false, false, false, false, false, false, false, false, false, false, false, false, false, false, false, false, false, false, false, false, false, false] (by kernel_rfl) rfl rfl ⟨(blk_cell BK512.out 0).trans rfl, (blk_cell BK512.out 1).trans rfl, (blk_cell BK512.out 2).trans rfl, (blk_cell BK512.out 3).trans rfl, (blk_cell BK491.out 0).trans rfl, (blk_cell BK491.out 1).trans rfl, (blk_cell BK491.out 2).trans rfl, (blk_cell BK491.out 3).trans rfl, hx516_0, hx516_1, hx516_2, hx516_3, hx516_4, hx516_5⟩ (fun hHeld => ?_); refine with_tabW tiklaw16_SegBack.tab35 tiklaw16_SegBack.bits35 (fun HT_ HW_ => ?_)
                   generalize wr.drew = w121 at HO_492002 HO_513002 BK474 BK491 BK512 HB HL516_3 HR516_3 hx516_0 hx516_1 hx516_2 hx516_3 hx516_4 hx516_5 hHeld ⊢
                   refine one_ (i := 0) (N := some 213) #[true, false, false, false, false, false, false, false, false, false, false, false, false, false, false, false, false, false, false, false, false, false, false, false, false, false, false, false, false, false, false, false, false] rfl rfl (one_of HT_.out (by kernel_rfl)) (by decide) (fun K hK => ?_)
                   refine goes_ Tryd.func29 (by kernel_rfl) rfl #[] (by rfl) rfl rfl (by (try simp only [List.map_toArray, List.map_cons, List.map_nil]); first | done | rfl | (simp only [List.length_drop, List.length_take]; rfl)) ?_
                   with_reducible refine (tiklaw16_first.calls k6  true _ ?side1 A111.out).mono ?_
                   (case side1 => first | (with_reducible exact HT.out) | exact tabAt HT.out (by repeat (first | (with_reducible first | exact HB.out | apply below_alloc | apply pw_below_drewN | apply below_drew1 | refine below_set ?_ GE474.out | refine below_set ?_ GE491.out | refine below_set ?_ GE512.out) | exact HB.out)))
                   rintro e w122 ⟨rfl, hb⟩
                   have HS8_ := (hb.cell (World.block_lt_of_cell? _ _ (hHeld.2.2.2.2.2.2.2.2.1))).trans (hHeld.2.2.2.2.2.2.2.2.1); have HS9_ := (hb.cell (World.block_lt_of_cell? _ _ (hHeld.2.2.2.2.2.2.2.2.2.1))).trans (hHeld.2.2.2.2.2.2.2.2.2.1); have HS10_ := (hb.cell (World.block_lt_of_cell? _ _ (hHeld.2.2.2.2.2.2.2.2.2.2.1))).trans (hHeld.2.2.2.2.2.2.2.2.2.2.1); have HS11_ := (hb.cell (World.block_lt_of_cell? _ _ (hHeld.2.2.2.2.2.2.2.2.2.2.2.1))).trans (hHeld.2.2.2.2.2.2.2.2.2.2.2.1); have HS12_ := (hb.cell (World.block_lt_of_cell? _ _ (hHeld.2.2.2.2.2.2.2.2.2.2.2.2.1))).trans (hHeld.2.2.2.2.2.2.2.2.2.2.2.2.1); have HS13_ := (hb.cell (World.block_lt_of_cell? _ _ (hHeld.2.2.2.2.2.2.2.2.2.2.2.2.2))).trans (hHeld.2.2.2.2.2.2.2.2.2.2.2.2.2)
                   refine ⟨_, rfl, ?_⟩
                   have n0_ := Aside0.mk (Kd.S_below (by (with_reducible repeat (first | apply Kd.S_alloc | apply Kd.S_drewN | apply Kd.S_drew)); exact HO_492002.out) hb); have n1_ := Aside0.mk (Kd.S_below (by (with_reducible repeat (first | apply Kd.S_alloc | apply Kd.S_drewN | apply Kd.S_drew)); exact HO_513002.out) hb); have n2_ := Aside0.mk (blk_below (g := gb474) (o := .cells #[.int .i64 a0_0, .int .u64 a0_1] 63 (0, 0)) (by (with_reducible repeat (first | refine blk_drewN ?_ _ | refine blk_drew ?_ | refine blk_alloc ?_ _)); exact BK474.out) hb); have n3_ := Aside0.mk (blk_below (g := gb491) (o := .cells #[.int .i64 t484, .int .u64 t485, .slice (some ad516) t486.length co31, .int .i64 t489] 72 (0, 0)) (by (with_reducible repeat (first | refine blk_drewN ?_ _ | refine blk_drew ?_ | refine blk_alloc ?_ _)); exact BK491.out) hb); have n4_ := Aside0.mk (blk_below (g := gb512) (o := .cells #[.int .i64 t505, .int .u64 t506, .slice Ao96 t507.length co96, .int .i64 t510] 72 (0, 0)) (by (with_reducible repeat (first | refine blk_drewN ?_ _ | refine blk_drew ?_ | refine blk_alloc ?_ _)); exact BK512.out) hb); have n5_ := Aside0.mk (below_step (by repeat (first | (with_reducible first | exact HB.out | apply below_alloc | apply pw_below_drewN | apply below_drew1 | refine below_set ?_ GE474.out | refine below_set ?_ GE491.out | refine below_set ?_ GE512.out) | exact HB.out)) hb); clear HO_492002; clear HO_513002; clear BK474; clear BK491; clear BK512; clear HB; have HO_492002 := n0_; have HO_513002 := n1_; have BK474 := n2_; have BK491 := n3_; have BK512 := n4_; have HB := n5_; clear n0_ n1_ n2_ n3_ n4_ n5_
                   (try clear hb)
                   (try clear hb2)
                   (try clear hk)
                   (try clear hi)
                   refine hK.out _ _ ⟨(blk_cell BK512.out 0).trans rfl, (blk_cell BK512.out 1).trans rfl, (blk_cell BK512.out 2).trans rfl, (blk_cell BK512.out 3).trans rfl, (blk_cell BK491.out 0).trans rfl, (blk_cell BK491.out 1).trans rfl, (blk_cell BK491.out 2).trans rfl, (blk_cell BK491.out 3).trans rfl, HS8_, HS9_, HS10_, HS11_, HS12_, HS13_⟩ (fun hHeld => ?_)
                   clear hK K
                   refine norm_ (a' := ?_) ?_ ?_
                   rotate_left
                   ·show Act.put _ (some 213) _ = _
                    simp only [Act.put, List.setIfInBounds_toArray, List.set_cons_zero, List.set_cons_succ, i64_w, i32_w]
                    rfl
                   refine pure_ (i := 1) (N := some 214) (v := ?_) (a' := ?_) #[true, true, false, false, false, false, false, false, false, false, false, false, false, false, false, false, false, false, false, false, false, false, false, false, false, false, false, false, false, false, false, false, false] rfl rfl (any_of HT_.out (by kernel_rfl)) (fun _ _ _ h => h) (Or.inl ⟨by rfl, ?_⟩) ?_ ?_
                   rotate_left
                   ·intro w'
                    go_simp
                    with_reducible rfl
                   rotate_left
                   ·simp only [Act.put, List.setIfInBounds_toArray, List.set_cons_zero, List.set_cons_succ, i64_w, i32_w]
                    rfl
                   refine pure_ (i := 2) (N := some 215) (v := ?_) (a' := ?_) #[true, true, true, false, false, false, false, false, false, false, false, false, false, false, false, false, false, false, false, false, false, false, false, false, false, false, false, false, false, false, false, false, false] rfl rfl (any_of HT_.out (by kernel_rfl)) (fun _ _ _ h => h) (Or.inl ⟨by rfl, ?_⟩) ?_ ?_
                   rotate_left
                   ·intro w'
                    go_simp
                    with_reducible rfl
                   rotate_left
                   ·simp only [Act.put, List.setIfInBounds_toArray, List.set_cons_zero, List.set_cons_succ, i64_w, i32_w]
                    rfl
                   refine take_ (i := 3) (N := some 216) (v := ?_) (a' := ?_) #[true, true, true, true, false, false, false, false, false, false, false, false, false, false, false, false, false, false, false, false, false, false, false, false, false, false, false, false, false, false, false, false, false] rfl rfl (take_ofW HT_.out HW_.out (by kernel_rfl)) (fun _ _ _ h => h) (Or.inl ⟨by rfl, ?_⟩) hHeld ?_ ?_
                   rotate_left
                   ·rintro w' ⟨s0, s1, s2, s3, s4, s5, s6, s7, s8, s9, s10, s11, s12, s13⟩
                    go_simp
                    with_reducible rfl
                   rotate_left
                   ·simp only [Act.put, List.setIfInBounds_toArray, List.set_cons_zero, List.set_cons_succ, i64_w, i32_w]
                    rfl
                   refine pure_ (i := 4) (N := some 217) (v := ?_) (a' := ?_) #[true, true, true, true, true, false, false, false, false, false, false, false, false, false, false, false, false, false, false, false, false, false, false, false, false, false, false, false, false, false, false, false, false] rfl rfl (any_of HT_.out (by kernel_rfl)) (fun _ _ _ h => h) (Or.inl ⟨by rfl, ?_⟩) ?_ ?_
                   rotate_left
                   ·intro w'
                    go_simp
                    with_reducible rfl
                   rotate_left
                   ·simp only [Act.put, List.setIfInBounds_toArray, List.set_cons_zero, List.set_cons_succ, i64_w, i32_w]
                    rfl
                   refine pure_ (i := 5) (N := some 218) (v := ?_) (a' := ?_) #[true, true, true, true, true, true, false, false, false, false, false, false, false, false, false, false, false, false, false, false, false, false, false, false, false, false, false, false, false, false, false, false, false] rfl rfl (any_of HT_.out (by kernel_rfl)) (fun _ _ _ h => h) (Or.inl ⟨by rfl, ?_⟩) ?_ ?_
                   rotate_left
                   ·intro w'
                    go_simp
                    with_reducible rfl
                   rotate_left
                   ·simp only [Act.put, List.setIfInBounds_toArray, List.set_cons_zero, List.set_cons_succ, i64_w, i32_w]
                    rfl
                   refine pure_ (i := 6) (N := some 219) (v := ?_) (a' := ?_) #[true, true, true, true, true, true, true, false, false, false, false, false, false, false, false, false, false, false, false, false, false, false, false, false, false, false, false, false, false, false, false, false, false] rfl rfl (any_of HT_.out (by kernel_rfl)) (fun _ _ _ h => h) (Or.inl ⟨by rfl, ?_⟩) ?_ ?_
                   rotate_left
                   ·intro w'
                    go_simp
                    with_reducible rfl
                   rotate_left
                   ·simp only [Act.put, List.setIfInBounds_toArray, List.set_cons_zero, List.set_cons_succ, i64_w, i32_w]
                    rfl
                   refine pure_ (i := 7) (N := some 220) (v := ?_) (a' := ?_) #[true, true, true, true, true, true, true, true, false, false, false, false, false, false, false, false, false, false, false, false, false, false, false, false, false, false, false, false, false, false, false, false, false] rfl rfl (any_of HT_.out (by kernel_rfl)) (fun _ _ _ h => h) (Or.inl ⟨by rfl, ?_⟩) ?_ ?_
                   rotate_left
                   ·intro w'
                    go_simp
                    with_reducible rfl
                   rotate_left
                   ·simp only [Act.put, List.setIfInBounds_toArray, List.set_cons_zero, List.set_cons_succ, i64_w, i32_w]
                    rfl
                   refine take_ (i := 8) (N := some 221) (v := ?_) (a' := ?_) #[true, true, true, true, true, true, true, true, true, false, false, false, false, false, false, false, false, false, false, false, false, false, false, false, false, false, false, false, false, false, false, false, false] rfl rfl (take_ofW HT_.out HW_.out (by kernel_rfl)) (fun _ _ _ h => h) (Or.inl ⟨by rfl, ?_⟩) hHeld ?_ ?_
                   rotate_left
                   ·rintro w' ⟨s0, s1, s2, s3, s4, s5, s6, s7, s8, s9, s10, s11, s12, s13⟩
                    go_simp
                    with_reducible rfl
                   rotate_left
                   ·simp only [Act.put, List.setIfInBounds_toArray, List.set_cons_zero, List.set_cons_succ, i64_w, i32_w]
                    rfl
                   refine pure_ (i := 9) (N := some 222) (v := ?_) (a' := ?_) #[true, true, true, true, true, true, true, true, true, true, false, false, false, false, false, false, false, false, false, false, false, false, false, false, false, false, false, false, false, false, false, false, false] rfl rfl (any_of HT_.out (by kernel_rfl)) (fun _ _ _ h => h) (Or.inl ⟨by rfl, ?_⟩) ?_ ?_
                   rotate_left
                   ·intro w'
                    go_simp
                    with_reducible rfl
                   rotate_left
                   ·simp only [Act.put, List.setIfInBounds_toArray, List.set_cons_zero, List.set_cons_succ, i64_w, i32_w]
                    rfl
                   refine pure_ (i := 10) (N := some 223) (v := ?_) (a' := ?_) #[true, true, true, true, true, true, true, true, true, true, true, false, false, false, false, false, false, false, false, false, false, false, false, false, false, false, false, false, false, false, false, false, false] rfl rfl (any_of HT_.out (by kernel_rfl)) (fun _ _ _ h => h) (Or.inl ⟨by rfl, ?_⟩) ?_ ?_
                   rotate_left
                   ·intro w'
                    go_simp
                    with_reducible rfl
                   rotate_left
                   ·simp only [Act.put, List.setIfInBounds_toArray, List.set_cons_zero, List.set_cons_succ, i64_w, i32_w]
                    rfl
                   refine pure_ (i := 11) (N := some 224) (v := ?_) (a' := ?_) #[true, true, true, true, true, true, true, true, true, true, true, true, false, false, false, false, false, false, false, false, false, false, false, false, false, false, false, false, false, false, false, false, false] rfl rfl (any_of HT_.out (by kernel_rfl)) (fun _ _ _ h => h) (Or.inl ⟨by rfl, ?_⟩) ?_ ?_
                   rotate_left
                   ·intro w'
                    go_simp
                    with_reducible rfl
                   rotate_left
                   ·simp only [Act.put, List.setIfInBounds_toArray, List.set_cons_zero, List.set_cons_succ, i64_w, i32_w]
                    rfl
                   refine pure_ (i := 12) (N := some 225) (v := ?_) (a' := ?_) #[true, true, true, true, true, true, true, true, true, true, true, true, true, false, false, false, false, false, false, false, false, false, false, false, false, false, false, false, false, false, false, false, false] rfl rfl (any_of HT_.out (by kernel_rfl)) (fun _ _ _ h => h) (Or.inl ⟨by rfl, ?_⟩) ?_ ?_
                   rotate_left
                   ·intro w'
                    go_simp
                    with_reducible rfl
                   rotate_left
                   ·simp only [Act.put, List.setIfInBounds_toArray, List.set_cons_zero, List.set_cons_succ, i64_w, i32_w]
                    rfl
                   refine take_ (i := 13) (N := some 226) (v := ?_) (a' := ?_) #[true, true, true, true, true, true, true, true, true, true, true, true, true, true, false, false, false, false, false, false, false, false, false, false, false, false, false, false, false, false, false, false, false] rfl rfl (take_ofW HT_.out HW_.out (by kernel_rfl)) (fun _ _ _ h => h) (Or.inl ⟨by rfl, ?_⟩) hHeld ?_ ?_
                   rotate_left
                   ·rintro w' ⟨s0, s1, s2, s3, s4, s5, s6, s7, s8, s9, s10, s11, s12, s13⟩
                    go_simp
                    with_reducible rfl
                   rotate_left
                   ·simp only [Act.put, List.setIfInBounds_toArray, List.set_cons_zero, List.set_cons_succ, i64_w, i32_w]
                    rfl
                   refine pure_ (i := 14) (N := some 227) (v := ?_) (a' := ?_) #[true, true, true, true, true, true, true, true, true, true, true, true, true, true, true, false, false, false, false, false, false, false, false, false, false, false, false, false, false, false, false, false, false] rfl rfl (any_of HT_.out (by kernel_rfl)) (fun _ _ _ h => h) (Or.inl ⟨by rfl, ?_⟩) ?_ ?_
                   rotate_left
                   ·intro w'
                    go_simp
                    with_reducible rfl
                   rotate_left
                   ·simp only [Act.put, List.setIfInBounds_toArray, List.set_cons_zero, List.set_cons_succ, i64_w, i32_w]
                    rfl
                   refine pure_ (i := 15) (N := some 228) (v := ?_) (a' := ?_) #[true, true, true, true, true, true, true, true, true, true, true, true, true, true, true, true, false, false, false, false, false, false, false, false, false, false, false, false, false, false, false, false, false] rfl rfl (any_of HT_.out (by kernel_rfl)) (fun _ _ _ h => h) (Or.inl ⟨by rfl, ?_⟩) ?_ ?_
                   rotate_left
                   ·intro w'
                    go_simp
                    with_reducible rfl
                   rotate_left
                   ·simp only [Act.put, List.setIfInBounds_toArray, List.set_cons_zero, List.set_cons_succ, i64_w, i32_w]
                    rfl
                   refine pure_ (i := 16) (N := some 229) (v := ?_) (a' := ?_) #[true, true, true, true, true, true, true, true, true, true, true, true, true, true, true, true, true, false, false, false, false, false, false, false, false, false, false, false, false, false, false, false, false] rfl rfl (any_of HT_.out (by kernel_rfl)) (fun _ _ _ h => h) (Or.inl ⟨by rfl, ?_⟩) ?_ ?_
                   rotate_left
                   ·intro w'
                    go_simp
                    with_reducible rfl
                   rotate_left
                   ·simp only [Act.put, List.setIfInBounds_toArray, List.set_cons_zero, List.set_cons_succ, i64_w, i32_w]
                    rfl
                   refine pure_ (i := 17) (N := some 230) (v := ?_) (a' := ?_) #[true, true, true, true, true, true, true, true, true, true, true, true, true, true, true, true, true, true, false, false, false, false, false, false, false, false, false, false, false, false, false, false, false] rfl rfl (any_of HT_.out (by kernel_rfl)) (fun _ _ _ h => h) (Or.inl ⟨by rfl, ?_⟩) ?_ ?_
                   rotate_left
                   ·intro w'
                    go_simp
                    with_reducible rfl
                   rotate_left
                   ·simp only [Act.put, List.setIfInBounds_toArray, List.set_cons_zero, List.set_cons_succ, i64_w, i32_w]
                    rfl
                   refine pure_ (i := 19) (N := some 232) (v := ?_) (a' := ?_) #[true, true, true, true, true, true, true, true, true, true, true, true, true, true, true, true, true, true, false, true, false, false, false, false, false, false, false, false, false, false, false, false, false] rfl rfl (any_of HT_.out (by kernel_rfl)) (fun _ _ _ h => h) (Or.inl ⟨by rfl, ?_⟩) ?_ ?_
                   rotate_left
                   ·intro w'
                    go_simp
                    with_reducible rfl
                   rotate_left
                   ·simp only [Act.put, List.setIfInBounds_toArray, List.set_cons_zero, List.set_cons_succ, i64_w, i32_w]
                    rfl
                   refine pure_ (i := 21) (N := some 234) (v := ?_) (a' := ?_) #[true, true, true, true, true, true, true, true, true, true, true, true, true, true, true, true, true, true, false, true, false, true, false, false, false, false, false, false, false, false, false, false, false] rfl rfl (any_of HT_.out (by kernel_rfl)) (fun _ _ _ h => h) (Or.inl ⟨by rfl, ?_⟩) ?_ ?_
                   rotate_left
                   ·intro w'
                    go_simp
                    with_reducible rfl
                   rotate_left
                   ·simp only [Act.put, List.setIfInBounds_toArray, List.set_cons_zero, List.set_cons_succ, i64_w, i32_w]
                    rfl
                   refine take_ (i := 18) (N := some 231) (v := ?_) (a' := ?_) #[true, true, true, true, true, true, true, true, true, true, true, true, true, true, true, true, true, true, true, true, false, true, false, false, false, false, false, false, false, false, false, false, false] rfl rfl (take_ofW HT_.out HW_.out (by kernel_rfl)) (fun _ _ _ h => h) (Or.inl ⟨by rfl, ?_⟩) hHeld ?_ ?_
                   rotate_left
                   ·rintro w' ⟨s0, s1, s2, s3, s4, s5, s6, s7, s8, s9, s10, s11, s12, s13⟩
                    go_simp
                    with_reducible rfl
                   rotate_left
                   ·simp only [Act.put, List.setIfInBounds_toArray, List.set_cons_zero, List.set_cons_succ, i64_w, i32_w]
                    rfl
                   refine take_ (i := 20) (N := some 233) (v := ?_) (a' := ?_) #[true, true, true, true, true, true, true, true, true, true, true, true, true, true, true, true, true, true, true, true, true, true, false, false, false, false, false, false, false, false, false, false, false] rfl rfl (take_ofW HT_.out HW_.out (by kernel_rfl)) (fun _ _ _ h => h) (Or.inl ⟨by rfl, ?_⟩) hHeld ?_ ?_
                   rotate_left
                   ·rintro w' ⟨s0, s1, s2, s3, s4, s5, s6, s7, s8, s9, s10, s11, s12, s13⟩
                    go_simp
                    with_reducible rfl
                   rotate_left
                   ·simp only [Act.put, List.setIfInBounds_toArray, List.set_cons_zero, List.set_cons_succ, i64_w, i32_w]
                    rfl
                   refine take_ (i := 22) (N := some 235) (v := ?_) (a' := ?_) #[true, true, true, true, true, true, true, true, true, true, true, true, true, true, true, true, true, true, true, true, true, true, true, false, false, false, false, false, false, false, false, false, false] rfl rfl (take_ofW HT_.out HW_.out (by kernel_rfl)) (fun _ _ _ h => h) (Or.inl ⟨by rfl, ?_⟩) hHeld ?_ ?_
                   rotate_left
                   ·rintro w' ⟨s0, s1, s2, s3, s4, s5, s6, s7, s8, s9, s10, s11, s12, s13⟩
                    go_simp
                    with_reducible rfl
                   rotate_left
                   ·simp only [Act.put, List.setIfInBounds_toArray, List.set_cons_zero, List.set_cons_succ, i64_w, i32_w]
                    rfl
                   refine pure_ (i := 23) (N := some 236) (v := ?_) (a' := ?_) #[true, true, true, true, true, true, true, true, true, true, true, true, true, true, true, true, true, true, true, true, true, true, true, true, false, false, false, false, false, false, false, false, false] rfl rfl (any_of HT_.out (by kernel_rfl)) (fun _ _ _ h => h) (Or.inl ⟨by rfl, ?_⟩) ?_ ?_
                   rotate_left
                   ·intro w'
                    go_simp
                    with_reducible rfl
                   rotate_left
                   ·simp only [Act.put, List.setIfInBounds_toArray, List.set_cons_zero, List.set_cons_succ, i64_w, i32_w]
                    rfl
                   refine pure_ (i := 24) (N := some 237) (v := ?_) (a' := ?_) #[true, true, true, true, true, true, true, true, true, true, true, true, true, true, true, true, true, true, true, true, true, true, true, true, true, false, false, false, false, false, false, false, false] rfl rfl (any_of HT_.out (by kernel_rfl)) (fun _ _ _ h => h) (Or.inl ⟨by rfl, ?_⟩) ?_ ?_
                   rotate_left
                   ·intro w'
                    go_simp
                    with_reducible rfl
                   rotate_left
                   ·simp only [Act.put, List.setIfInBounds_toArray, List.set_cons_zero, List.set_cons_succ, i64_w, i32_w]
                    rfl
                   refine pure_ (i := 25) (N := some 238) (v := ?_) (a' := ?_) #[true, true, true, true, true, true, true, true, true, true, true, true, true, true, true, true, true, true, true, true, true, true, true, true, true, true, false, false, false, false, false, false, false] rfl rfl (any_of HT_.out (by kernel_rfl)) (fun _ _ _ h => h) (Or.inl ⟨by rfl, ?_⟩) ?_ ?_
                   rotate_left
                   ·intro w'
                    go_simp
                    with_reducible rfl
                   rotate_left
                   ·simp only [Act.put, List.setIfInBounds_toArray, List.set_cons_zero, List.set_cons_succ, i64_w, i32_w]
                    rfl
                   refine pure_ (i := 26) (N := some 239) (v := ?_) (a' := ?_) #[true, true, true, true, true, true, true, true, true, true, true, true, true, true, true, true, true, true, true, true, true, true, true, true, true, true, true, false, false, false, false, false, false] rfl rfl (any_of HT_.out (by kernel_rfl)) (fun _ _ _ h => h) (Or.inl ⟨by rfl, ?_⟩) ?_ ?_
                   rotate_left
                   ·intro w'
                    go_simp
                    with_reducible rfl
                   rotate_left
                   ·simp only [Act.put, List.setIfInBounds_toArray, List.set_cons_zero, List.set_cons_succ, i64_w, i32_w]
                    rfl
                   refine take_ (i := 27) (N := some 240) (v := ?_) (a' := ?_) #[true, true, true, true, true, true, true, true, true, true, true, true, true, true, true, true, true, true, true, true, true, true, true, true, true, true, true, true, false, false, false, false, false] rfl rfl (take_ofW HT_.out HW_.out (by kernel_rfl)) (fun _ _ _ h => h) (Or.inl ⟨by rfl, ?_⟩) hHeld ?_ ?_
                   rotate_left
                   ·rintro w' ⟨s0, s1, s2, s3, s4, s5, s6, s7, s8, s9, s10, s11, s12, s13⟩
                    go_simp
                    with_reducible rfl
                   rotate_left
                   ·simp only [Act.put, List.setIfInBounds_toArray, List.set_cons_zero, List.set_cons_succ, i64_w, i32_w]
                    rfl
                   refine pure_ (i := 28) (N := some 241) (v := ?_) (a' := ?_) #[true, true, true, true, true, true, true, true, true, true, true, true, true, true, true, true, true, true, true, true, true, true, true, true, true, true, true, true, true, false, false, false, false] rfl rfl (any_of HT_.out (by kernel_rfl)) (fun _ _ _ h => h) (Or.inl ⟨by rfl, ?_⟩) ?_ ?_
                   rotate_left
                   ·intro w'
                    go_simp
                    with_reducible rfl
                   rotate_left
                   ·simp only [Act.put, List.setIfInBounds_toArray, List.set_cons_zero, List.set_cons_succ, i64_w, i32_w]
                    rfl
                   refine pure_ (i := 29) (N := some 242) (v := ?_) (a' := ?_) #[true, true, true, true, true, true, true, true, true, true, true, true, true, true, true, true, true, true, true, true, true, true, true, true, true, true, true, true, true, true, false, false, false] rfl rfl (any_of HT_.out (by kernel_rfl)) (fun _ _ _ h => h) (Or.inl ⟨by rfl, ?_⟩) ?_ ?_
                   rotate_left
                   ·intro w'
                    go_simp
                    with_reducible rfl
                   rotate_left
                   ·simp only [Act.put, List.setIfInBounds_toArray, List.set_cons_zero, List.set_cons_succ, i64_w, i32_w]
                    rfl
                   refine pure_ (i := 30) (N := some 243) (v := ?_) (a' := ?_) #[true, true, true, true, true, true, true, true, true, true, true, true, true, true, true, true, true, true, true, true, true, true, true, true, true, true, true, true, true, true, true, false, false] rfl rfl (any_of HT_.out (by kernel_rfl)) (fun _ _ _ h => h) (Or.inl ⟨by rfl, ?_⟩) ?_ ?_
                   rotate_left
                   ·intro w'
                    go_simp
                    with_reducible rfl
                   rotate_left
                   ·simp only [Act.put, List.setIfInBounds_toArray, List.set_cons_zero, List.set_cons_succ, i64_w, i32_w]
                    rfl
                   refine pure_ (i := 31) (N := some 244) (v := ?_) (a' := ?_) #[true, true, true, true, true, true, true, true, true, true, true, true, true, true, true, true, true, true, true, true, true, true, true, true, true, true, true, true, true, true, true, true, false] rfl rfl (any_of HT_.out (by kernel_rfl)) (fun _ _ _ h => h) (Or.inl ⟨by rfl, ?_⟩) ?_ ?_
                   rotate_left
                   ·intro w'
                    go_simp
                    with_reducible rfl
                   rotate_left
                   ·simp only [Act.put, List.setIfInBounds_toArray, List.set_cons_zero, List.set_cons_succ, i64_w, i32_w]
                    rfl
                   refine pure_ (i := 32) (N := some 6) (v := ?_) (a' := ?_) #[true, true, true, true, true, true, true, true, true, true, true, true, true, true, true, true, true, true, true, true, true, true, true, true, true, true, true, true, true, true, true, true, true] rfl rfl (any_of HT_.out (by kernel_rfl)) (fun _ _ _ h => h) (Or.inl ⟨by rfl, ?_⟩) ?_ ?_
                   rotate_left
                   ·intro w'
                    go_simp
                    with_reducible rfl
                   rotate_left
                   ·simp only [Act.put, List.setIfInBounds_toArray, List.set_cons_zero, List.set_cons_succ, i64_w, i32_w]
                    rfl
                   refine done_ (done_of HT_.out (by kernel_rfl)) ?_
                   try go_wp2
                   go_ret
                   exact ⟨by first | rfl | (simp [errW_none, errW_some] <;> rfl) | (simp only [← hji72, ← hji118]; first | rfl | (simp [errW_none, errW_some] <;> rfl)) | (simp [*, errW_none, errW_some] <;> rfl), by repeat (first | (with_reducible first | exact HB.out | apply below_alloc | apply pw_below_drewN | apply below_drew1 | refine below_set ?_ GE474.out | refine below_set ?_ GE491.out | refine below_set ?_ GE512.out) | exact HB.out)⟩
end Go.Proofs.YtlgfmmkabnbllaaDoor.PS
