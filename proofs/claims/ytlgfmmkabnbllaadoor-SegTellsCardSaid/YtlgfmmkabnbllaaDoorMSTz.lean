/- Texts of this claim, put together. -/
import Derived.Test.YtlgfmmkabnbllaaDoorMSTb
import Derived.Test.YtlgfmmkabnbllaaDoorMSTd
import Derived.Test.YtlgfmmkabnbllaaDoorMSTe
import Derived.Test.YtlgfmmkabnbllaaDoorMSTf
import Derived.Test.YtlgfmmkabnbllaaDoorRows
import Derived.Test.YtlgfmmkabnbllaaDoorMSTa
import Derived.Test.YtlgfmmkabnbllaaDoorTie
import Derived.Test.YtlgfmmkabnbllaaDoorCards
import Derived.WalkKit
import Derived.ProofKit
import Derived.OpenShut
import Derived.ShutString
import Derived.ChangeOld
import Derived.Below
import Derived.SizedLaws
import Derived.LaidMore
import Derived.Stop.Joined
import Derived.SevenTiedAt
set_option linter.unusedVariables false
set_option linter.unusedSimpArgs false
namespace Go.Proofs.YtlgfmmkabnbllaaDoor.PS
open Go.RowKit Go.Proofs.YtlgfmmkabnbllaaDoorW.PrintWords Go.Proofs.YtlgfmmkabnbllaaDoorW.PrintLast Go.Proofs.YtlgfmmkabnbllaaDoorW.PrintMore
attribute [local go_sem] max2_int min2_int max_two min_two max_three min_three max_four min_four
open Go.Proofs.YtlgfmmkabnbllaaDoor.Hand
open Go.Proofs.YtlgfmmkabnbllaaDoor.PA
set_option linter.unusedVariables false
set_option linter.unusedSimpArgs false
def tiklaw16_SegTells.j0 : Nat → Int → ByteArray → List Int → Bool → Int → Int → Option (Bool)
 | 0, _, _, _, _, _, _ => none
 | k + 1, x0, x1, x3, x30, x285000, x285001 => if x30 = true then ((tiklaw16_first.f k).bind fun t286 => (some t286)) else ((seg_Number.f k x1).bind fun bt287 => ((tikref13_Number.f k x1).bind fun bt289 => ((seg_Header.f k x285000 x285001).bind fun bt291 => ((tikref13_Header.f k x285000 x285001).bind fun bt295 => ((seg_Read.f k x3).bind fun bt299 => ((tikref13_ReadSeg.f k x3).bind fun bt307 => ((tiklaw16_first.f k).bind fun t315 => (if t315 = true then ((seg_Name.f x0).bind fun t316 => ((tikref13_Name.f k x0).bind fun t317 => (if t316.toList = t317.toList then (if (bt287.2 == bt289.2) = true then (if bt287.2 = true then (if bt287.1 = bt289.1 then ((tikref_Bytes.f bt291.1 bt295.1).bind fun t318 => (if t318 = true then (if bt291.2 = bt295.2 then ((tiklaw16_Plain.f k bt299.1 bt299.2.1 bt299.2.2.1 bt299.2.2.2.1).bind fun bt319 => ((tikref13_SameScan.f k bt319.1 bt319.2.1 bt319.2.2.1 bt319.2.2.2 bt307.1 bt307.2.1 bt307.2.2.1 bt307.2.2.2.1).bind fun t325 => (if t325 = true then (some (bt299.2.2.2.2 == bt307.2.2.2.2)) else (some false)))) else (some false)) else (some false))) else (some false)) else ((tikref_Bytes.f bt291.1 bt295.1).bind fun t326 => (if t326 = true then (if bt291.2 = bt295.2 then ((tiklaw16_Plain.f k bt299.1 bt299.2.1 bt299.2.2.1 bt299.2.2.2.1).bind fun bt327 => ((tikref13_SameScan.f k bt327.1 bt327.2.1 bt327.2.2.1 bt327.2.2.2 bt307.1 bt307.2.1 bt307.2.2.1 bt307.2.2.2.1).bind fun t333 => (if t333 = true then (some (bt299.2.2.2.2 == bt307.2.2.2.2)) else (some false)))) else (some false)) else (some false)))) else (some false)) else (some false)))) else (some false)))))))))
def tiklaw16_SegTells.f (k : Nat) (a0 : Int) (a1 : ByteArray) (a2_0 : Int) (a2_1 : Int) (l3 : List Int) : Option (Bool) := (tiklaw16_first.f k).bind fun t285 => (if t285 = true then (if (l3.length : Int) > 3000 then (tiklaw16_SegTells.j0 k a0 a1 l3 true a2_0 a2_1) else (tiklaw16_SegTells.j0 k a0 a1 l3 (decide ((a1.size : Int) > 3000)) a2_0 a2_1)) else (some false))
def tiklaw16_SegTells.T11 : Bool × List (List Nat × List Nat) := (true, [([], []), ([0, 0], [0]), ([1], [1]), ([2, 1, 1], [1, 2]), ([1], [1]), ([4, 3, 1], [1, 4]), ([3, 5, 1], [1, 3, 5]), ([1, 6], [1, 6]), ([7, 5], [7]), ([8], [8]), ([8], [8]), ([9, 10, 8], [8, 9, 10]), ([8, 11], [8, 11]), ([12, 8], [12]), ([13], [13]), ([14, 13], [13, 14]), ([15, 13, 13], [13, 15]), ([16], [16]), ([16], [16]), ([17, 18, 16], [16, 17, 18]), ([16, 19, 13], [13, 16, 19]), ([13, 20], [13, 20]), ([21, 16], [21]), ([22], [22]), ([22], [22]), ([23, 24, 22, 22], [22, 23, 24]), ([22, 25], [22, 25]), ([26, 25], [26]), ([27], [27]), ([27], [27]), ([28, 29, 27], [27, 28, 29]), ([27, 30], [27, 30]), ([31, 27], [31]), ([32], [32]), ([33, 32, 32], [32, 33]), ([32], [32]), ([34, 35, 34, 32], [32, 34, 35]), ([32, 36], [32, 36]), ([37, 36], [37]), ([38], [38]), ([38], [38]), ([39, 40, 38], [38, 39, 40]), ([38, 41], [38, 41]), ([42, 38, 0, 1, 2, 3, 4, 5, 6, 7, 8, 9, 10, 11, 12, 13, 14, 15, 16, 17, 18, 19, 20, 21, 22, 23, 24, 25, 26, 27, 28, 29, 30, 31, 32, 33, 34, 35, 36, 37, 38, 39, 40, 41, 42], [42])])
def tiklaw16_SegTells.B11 : List Nat := [0, 1, 3, 7, 3, 31, 63, 127, 255, 511, 511, 2047, 4095, 8191, 16383, 32767, 65535, 131071, 131071, 524287, 1048575, 2097151, 4194303, 8388607, 8388607, 33554431, 67108863, 134217727, 268435455, 268435455, 1073741823, 2147483647, 4294967295, 8589934591, 17179869183, 8589934591, 68719476735, 137438953471, 274877906943, 549755813887, 549755813887, 2199023255551, 4398046511103, 8796093022207]
theorem tiklaw16_SegTells.tab11 : rtab .any (opsOf Tryd.f8 11) = tiklaw16_SegTells.T11 := by kernel_rfl
theorem tiklaw16_SegTells.bits11 : waitsOk tiklaw16_SegTells.T11.2 tiklaw16_SegTells.B11 = true := by kernel_rfl
set_option maxHeartbeats 8000000 in
set_option maxRecDepth 100000 in
theorem tiklaw16_SegTells.calls (k : Nat) (a0 : Int) (a1 : ByteArray) (a2_0 : Int) (a2_1 : Int) (A3 : Option Addr) (c3 : Nat) (l3 : List Int) (r : Bool) (w : World) (hr3 : Kd.C (Kd.int .u8) w A3 l3.length l3) (hc3 : l3.length ≤ c3) (hT : TabI w) (hr_ : Aside0 (r = true)) (h : tiklaw16_SegTells.f k a0 a1 a2_0 a2_1 l3 = some r) :
  Calls Tryd.prog 8 #[.int .i64 a0, .string a1, .agg #[.int .i64 a2_0, .int .u64 a2_1], .slice A3 l3.length c3] w fun e w' => e = .returned (.bool r) ∧ Below w.heap.size w w' := by
 have HT := Aside0.mk hT; clear hT; have hu63 := Tryd.underlying63; have hu72 := Tryd.underlying72; have hu77 := Tryd.underlying77; have HR3 := Aside0.mk hr3; have HC3 := Aside0.mk hc3; clear hr3 hc3; have HB := Aside0.mk (Below.refl w.heap.size w); have H : ((tiklaw16_first.f k).bind fun t285 => (if t285 = true then (if (l3.length : Int) > 3000 then (tiklaw16_SegTells.j0 k a0 a1 l3 true a2_0 a2_1) else (tiklaw16_SegTells.j0 k a0 a1 l3 (decide ((a1.size : Int) > 3000)) a2_0 a2_1)) else (some false))) = some r := h; clear h; replace H := Option.bind_eq_some_iff.mp H; obtain ⟨t285, A50, H⟩ := H; replace H : (if t285 = true then (if (l3.length : Int) > 3000 then (tiklaw16_SegTells.j0 k a0 a1 l3 true a2_0 a2_1) else (tiklaw16_SegTells.j0 k a0 a1 l3 (decide ((a1.size : Int) > 3000)) a2_0 a2_1)) else (some false)) = some r := H; have A5 := Aside0.mk A50; clear A50
 by_cases c6 : t285 = true
 rotate_left
 ·replace c6 := Bool.eq_false_iff.mpr c6
  subst c6; (have H1 : (some false) = some r := by rw [if_neg (show ¬ (false = true) by decide)] at H; exact H); clear H; have H := H1; clear H1; exact absurd ((Option.some.inj H).trans hr_.out) (by simp)
 subst c6; (have H1 : (if (l3.length : Int) > 3000 then (tiklaw16_SegTells.j0 k a0 a1 l3 true a2_0 a2_1) else (tiklaw16_SegTells.j0 k a0 a1 l3 (decide ((a1.size : Int) > 3000)) a2_0 a2_1)) = some r := by rw [if_pos rfl] at H; exact H); clear H; have H := H1; clear H1; have HC7 := Aside0.mk H; clear H
 go_enter Tryd.func8, Tryd.ntmps8
 go_upto_region 3 with (first | ((with_reducible refine gate_dst (N := 6) rfl ?_); (try (refine gate_guard (by rfl) ?_; dsimp only)); refine box_event ?hg (N := 6) ?hd (cs := #[.int .i64 a2_0, .int .u64 a2_1]) (t := 63) ?hr ?_; (case hd => rfl); (case hg => rfl); (case hr => first | (go_simp; done) | (go_simp; rfl)); intro gb284 hg w8 hbox hb; have n0_ := Aside0.mk (below_step (hx_ HB) hb); have n1_ := Aside0.mk (hbox); have n2_ := Aside0.mk ((by rw [hg]; exact (below_size (hx_ HB)) : w.heap.size ≤ gb284)); have n3_ := Aside0.mk ((by rw [hg]; exact (below_size (hx_ HB)) : w.heap.size ≤ gb284)); clear HB; have HB := n0_; have BK284 := n1_; have GW284 := n2_; have GE284 := n3_; clear n0_ n1_ n2_ n3_; clear hb hbox hg) | ((with_reducible refine gate_callee (f := 29) rfl ?_); refine goesL_ (some 21) rfl rfl Tryd.func29 (by kernel_rfl) rfl #[] rfl (by (try simp only [List.map_toArray, List.map_cons, List.map_nil]); first | done | rfl | (simp only [List.length_drop, List.length_take]; rfl)) ?_; (with_reducible refine (tiklaw16_first.calls k  true _ ?side1 (by first | exact ⟨rfl⟩ | exact hr_) A5.out).mono ?_); (case side1 => first | (with_reducible exact HT.out) | exact tabAt HT.out (by repeat (first | (with_reducible first | exact HB.out | apply yA | apply yN | apply yD | refine yS ?_ GE284.out) | exact HB.out))); rintro e w9 ⟨rfl, hb⟩; refine ⟨_, rfl, ?_⟩; have n0_ := Aside0.mk (blk_below (g := gb284) (o := .cells #[.int .i64 a2_0, .int .u64 a2_1] 63 (0, 0)) (bx_ BK284) hb); have n1_ := Aside0.mk (below_step (by repeat (first | (with_reducible first | exact HB.out | apply yA | apply yN | apply yD | refine yS ?_ GE284.out) | exact HB.out)) hb); clear BK284; clear HB; have BK284 := n0_; have HB := n1_; clear n0_ n1_; (try clear hb); (try clear hb2); (try clear hk); (try clear hi)))
 (try simp only [Act.put, List.setIfInBounds_toArray, List.set_cons_zero, List.set_cons_succ])
 go_cut [30] (fun v30 wc => ∃ (kq : Nat) (x30_6 : Bool), v30 = .bool x30_6 ∧ Aside0 (tiklaw16_SegTells.j0 kq a0 a1 l3 x30_6 a2_0 a2_1 = some r) ∧ Aside0 (kq ≤ k) ∧ Aside0 (wc.heap[gb284]? = some (.cells #[.int .i64 a2_0, .int .u64 a2_1] 63 (0, 0))) ∧ Aside0 (Below w.heap.size w wc))
 case first =>
  have H := HC7.out; clear HC7
  by_cases c10 : (l3.length : Int) > 3000
  ·rw [if_pos c10] at H
   have c10b0 : decide (3000 < (l3.length : Int)) = true := decide_eq_true c10; have c10b1 : decide (3000 < l3.length) = true := decide_eq_true (by omega); clear c10; (first | rw [c10b0] | (simp only [i64_w, i32_w]; rw [c10b0]) | skip); have H' := Aside0.mk H; clear H
   go_wp2
   go_meet
   case rel => exact ⟨_, (true), (by first | rfl | (simp; done) | (simp [*]; done)), H', ⟨by first | omega | exact Nat.le_refl _⟩, ⟨by (with_reducible repeat first | apply zN | apply zD | apply zA); exact BK284.out⟩, ⟨by repeat (first | (with_reducible first | exact HB.out | apply yA | apply yN | apply yD | refine yS ?_ GE284.out) | exact HB.out)⟩⟩
  (rw [if_neg c10] at H); have c10b0 : decide (3000 < (l3.length : Int)) = false := decide_eq_false c10; have c10b1 : decide (3000 < l3.length) = false := decide_eq_false (by omega); clear c10; (first | rw [c10b0] | (simp only [i64_w, i32_w]; rw [c10b0]) | skip); have H' := Aside0.mk H; clear H
  go_wp2
  go_meet
  case rel => exact ⟨_, (decide ((a1.size : Int) > 3000)), (by first | rfl | (simp; done) | (simp [*]; done)), H', ⟨by first | omega | exact Nat.le_refl _⟩, ⟨by (with_reducible repeat first | apply zN | apply zD | apply zA); exact BK284.out⟩, ⟨by repeat (first | (with_reducible first | exact HB.out | apply yA | apply yN | apply yD | refine yS ?_ GE284.out) | exact HB.out)⟩⟩
 case rest =>
  as_aux_lemma =>
   clear HC7; (try clear c1); (try clear c2); (try clear p2); (try clear c3); (try clear c6); (try clear c8); (try clear c10); (try clear c10b0); (try clear c10b1); obtain ⟨kq, x30_6, rfl, HA, HJ6, BK284, HB⟩ := hcut
   cases kq with
   | zero => exact absurd HA.out (by simp [tiklaw16_SegTells.j0])
   | succ kj6 =>
    have H := HA.out; clear HA; (simp only [tiklaw16_SegTells.j0] at H)
    by_cases c11 : x30_6 = true
    ·subst c11
     (have H1 : ((tiklaw16_first.f kj6).bind fun t286 => (some t286)) = some r := by rw [if_pos rfl] at H; exact H); clear H; have H := H1; clear H1; replace H := Option.bind_eq_some_iff.mp H; obtain ⟨t286, A120, H⟩ := H; replace H : (some t286) = some r := H; have A12 := Aside0.mk A120; clear A120; obtain rfl := Option.some.inj H
     go_wp2_with (first | ((with_reducible refine gate_callee (f := 29) rfl ?_); refine goesL_ (some 31) rfl rfl Tryd.func29 (by kernel_rfl) rfl #[] rfl (by (try simp only [List.map_toArray, List.map_cons, List.map_nil]); first | done | rfl | (simp only [List.length_drop, List.length_take]; rfl)) ?_; (with_reducible refine (tiklaw16_first.calls kj6  t286 _ ?side1 (by first | exact ⟨rfl⟩ | exact hr_) A12.out).mono ?_); (case side1 => first | (with_reducible exact HT.out) | exact tabAt HT.out (by repeat (first | (with_reducible first | exact HB.out | apply yA | apply yN | apply yD | refine yS ?_ GE284.out) | exact HB.out))); rintro e w13 ⟨rfl, hb⟩; refine ⟨_, rfl, ?_⟩; have n0_ := Aside0.mk (blk_below (g := gb284) (o := .cells #[.int .i64 a2_0, .int .u64 a2_1] 63 (0, 0)) (bx_ BK284) hb); have n1_ := Aside0.mk (below_step (by repeat (first | (with_reducible first | exact HB.out | apply yA | apply yN | apply yD | refine yS ?_ GE284.out) | exact HB.out)) hb); clear BK284; clear HB; have BK284 := n0_; have HB := n1_; clear n0_ n1_; (try clear hb); (try clear hb2); (try clear hk); (try clear hi)))
     go_ret
     exact ⟨by first | rfl | (simp [errW_none, errW_some] <;> rfl) | (simp [*, errW_none, errW_some] <;> rfl), by repeat (first | (with_reducible first | exact HB.out | apply yA | apply yN | apply yD | refine yS ?_ GE284.out) | exact HB.out)⟩
    replace c11 := Bool.eq_false_iff.mpr c11; subst c11; (have H1 : ((seg_Number.f kj6 a1).bind fun bt287 => ((tikref13_Number.f kj6 a1).bind fun bt289 => ((seg_Header.f kj6 a2_0 a2_1).bind fun bt291 => ((tikref13_Header.f kj6 a2_0 a2_1).bind fun bt295 => ((seg_Read.f kj6 l3).bind fun bt299 => ((tikref13_ReadSeg.f kj6 l3).bind fun bt307 => ((tiklaw16_first.f kj6).bind fun t315 => (if t315 = true then ((seg_Name.f a0).bind fun t316 => ((tikref13_Name.f kj6 a0).bind fun t317 => (if t316.toList = t317.toList then (if (bt287.2 == bt289.2) = true then (if bt287.2 = true then (if bt287.1 = bt289.1 then ((tikref_Bytes.f bt291.1 bt295.1).bind fun t318 => (if t318 = true then (if bt291.2 = bt295.2 then ((tiklaw16_Plain.f kj6 bt299.1 bt299.2.1 bt299.2.2.1 bt299.2.2.2.1).bind fun bt319 => ((tikref13_SameScan.f kj6 bt319.1 bt319.2.1 bt319.2.2.1 bt319.2.2.2 bt307.1 bt307.2.1 bt307.2.2.1 bt307.2.2.2.1).bind fun t325 => (if t325 = true then (some (bt299.2.2.2.2 == bt307.2.2.2.2)) else (some false)))) else (some false)) else (some false))) else (some false)) else ((tikref_Bytes.f bt291.1 bt295.1).bind fun t326 => (if t326 = true then (if bt291.2 = bt295.2 then ((tiklaw16_Plain.f kj6 bt299.1 bt299.2.1 bt299.2.2.1 bt299.2.2.2.1).bind fun bt327 => ((tikref13_SameScan.f kj6 bt327.1 bt327.2.1 bt327.2.2.1 bt327.2.2.2 bt307.1 bt307.2.1 bt307.2.2.1 bt307.2.2.2.1).bind fun t333 => (if t333 = true then (some (bt299.2.2.2.2 == bt307.2.2.2.2)) else (some false)))) else (some false)) else (some false)))) else (some false)) else (some false)))) else (some false))))))))) = some r := by rw [if_neg (show ¬ (false = true) by decide)] at H; exact H); clear H; have H := H1; clear H1; replace H := Option.bind_eq_some_iff.mp H; obtain ⟨⟨t287, t288⟩, A140, H⟩ := H; replace H : ((tikref13_Number.f kj6 a1).bind fun bt289 => ((seg_Header.f kj6 a2_0 a2_1).bind fun bt291 => ((tikref13_Header.f kj6 a2_0 a2_1).bind fun bt295 => ((seg_Read.f kj6 l3).bind fun bt299 => ((tikref13_ReadSeg.f kj6 l3).bind fun bt307 => ((tiklaw16_first.f kj6).bind fun t315 => (if t315 = true then ((seg_Name.f a0).bind fun t316 => ((tikref13_Name.f kj6 a0).bind fun t317 => (if t316.toList = t317.toList then (if (t288 == bt289.2) = true then (if t288 = true then (if t287 = bt289.1 then ((tikref_Bytes.f bt291.1 bt295.1).bind fun t318 => (if t318 = true then (if bt291.2 = bt295.2 then ((tiklaw16_Plain.f kj6 bt299.1 bt299.2.1 bt299.2.2.1 bt299.2.2.2.1).bind fun bt319 => ((tikref13_SameScan.f kj6 bt319.1 bt319.2.1 bt319.2.2.1 bt319.2.2.2 bt307.1 bt307.2.1 bt307.2.2.1 bt307.2.2.2.1).bind fun t325 => (if t325 = true then (some (bt299.2.2.2.2 == bt307.2.2.2.2)) else (some false)))) else (some false)) else (some false))) else (some false)) else ((tikref_Bytes.f bt291.1 bt295.1).bind fun t326 => (if t326 = true then (if bt291.2 = bt295.2 then ((tiklaw16_Plain.f kj6 bt299.1 bt299.2.1 bt299.2.2.1 bt299.2.2.2.1).bind fun bt327 => ((tikref13_SameScan.f kj6 bt327.1 bt327.2.1 bt327.2.2.1 bt327.2.2.2 bt307.1 bt307.2.1 bt307.2.2.1 bt307.2.2.2.1).bind fun t333 => (if t333 = true then (some (bt299.2.2.2.2 == bt307.2.2.2.2)) else (some false)))) else (some false)) else (some false)))) else (some false)) else (some false)))) else (some false)))))))) = some r := H; have A14 := Aside0.mk A140; clear A140; replace H := Option.bind_eq_some_iff.mp H; obtain ⟨⟨t289, t290⟩, A150, H⟩ := H; replace H : ((seg_Header.f kj6 a2_0 a2_1).bind fun bt291 => ((tikref13_Header.f kj6 a2_0 a2_1).bind fun bt295 => ((seg_Read.f kj6 l3).bind fun bt299 => ((tikref13_ReadSeg.f kj6 l3).bind fun bt307 => ((tiklaw16_first.f kj6).bind fun t315 => (if t315 = true then ((seg_Name.f a0).bind fun t316 => ((tikref13_Name.f kj6 a0).bind fun t317 => (if t316.toList = t317.toList then (if (t288 == t290) = true then (if t288 = true then (if t287 = t289 then ((tikref_Bytes.f bt291.1 bt295.1).bind fun t318 => (if t318 = true then (if bt291.2 = bt295.2 then ((tiklaw16_Plain.f kj6 bt299.1 bt299.2.1 bt299.2.2.1 bt299.2.2.2.1).bind fun bt319 => ((tikref13_SameScan.f kj6 bt319.1 bt319.2.1 bt319.2.2.1 bt319.2.2.2 bt307.1 bt307.2.1 bt307.2.2.1 bt307.2.2.2.1).bind fun t325 => (if t325 = true then (some (bt299.2.2.2.2 == bt307.2.2.2.2)) else (some false)))) else (some false)) else (some false))) else (some false)) else ((tikref_Bytes.f bt291.1 bt295.1).bind fun t326 => (if t326 = true then (if bt291.2 = bt295.2 then ((tiklaw16_Plain.f kj6 bt299.1 bt299.2.1 bt299.2.2.1 bt299.2.2.2.1).bind fun bt327 => ((tikref13_SameScan.f kj6 bt327.1 bt327.2.1 bt327.2.2.1 bt327.2.2.2 bt307.1 bt307.2.1 bt307.2.2.1 bt307.2.2.2.1).bind fun t333 => (if t333 = true then (some (bt299.2.2.2.2 == bt307.2.2.2.2)) else (some false)))) else (some false)) else (some false)))) else (some false)) else (some false)))) else (some false))))))) = some r := H; have A15 := Aside0.mk A150; clear A150; replace H := Option.bind_eq_some_iff.mp H; obtain ⟨⟨t291, t294⟩, A160, H⟩ := H; replace H : ((tikref13_Header.f kj6 a2_0 a2_1).bind fun bt295 => ((seg_Read.f kj6 l3).bind fun bt299 => ((tikref13_ReadSeg.f kj6 l3).bind fun bt307 => ((tiklaw16_first.f kj6).bind fun t315 => (if t315 = true then ((seg_Name.f a0).bind fun t316 => ((tikref13_Name.f kj6 a0).bind fun t317 => (if t316.toList = t317.toList then (if (t288 == t290) = true then (if t288 = true then (if t287 = t289 then ((tikref_Bytes.f t291 bt295.1).bind fun t318 => (if t318 = true then (if t294 = bt295.2 then ((tiklaw16_Plain.f kj6 bt299.1 bt299.2.1 bt299.2.2.1 bt299.2.2.2.1).bind fun bt319 => ((tikref13_SameScan.f kj6 bt319.1 bt319.2.1 bt319.2.2.1 bt319.2.2.2 bt307.1 bt307.2.1 bt307.2.2.1 bt307.2.2.2.1).bind fun t325 => (if t325 = true then (some (bt299.2.2.2.2 == bt307.2.2.2.2)) else (some false)))) else (some false)) else (some false))) else (some false)) else ((tikref_Bytes.f t291 bt295.1).bind fun t326 => (if t326 = true then (if t294 = bt295.2 then ((tiklaw16_Plain.f kj6 bt299.1 bt299.2.1 bt299.2.2.1 bt299.2.2.2.1).bind fun bt327 => ((tikref13_SameScan.f kj6 bt327.1 bt327.2.1 bt327.2.2.1 bt327.2.2.2 bt307.1 bt307.2.1 bt307.2.2.1 bt307.2.2.2.1).bind fun t333 => (if t333 = true then (some (bt299.2.2.2.2 == bt307.2.2.2.2)) else (some false)))) else (some false)) else (some false)))) else (some false)) else (some false)))) else (some false)))))) = some r := H; have A16 := Aside0.mk A160; clear A160; replace H := Option.bind_eq_some_iff.mp H; obtain ⟨⟨t295, t296⟩, A170, H⟩ := H; replace H : ((seg_Read.f kj6 l3).bind fun bt299 => ((tikref13_ReadSeg.f kj6 l3).bind fun bt307 => ((tiklaw16_first.f kj6).bind fun t315 => (if t315 = true then ((seg_Name.f a0).bind fun t316 => ((tikref13_Name.f kj6 a0).bind fun t317 => (if t316.toList = t317.toList then (if (t288 == t290) = true then (if t288 = true then (if t287 = t289 then ((tikref_Bytes.f t291 t295).bind fun t318 => (if t318 = true then (if t294 = t296 then ((tiklaw16_Plain.f kj6 bt299.1 bt299.2.1 bt299.2.2.1 bt299.2.2.2.1).bind fun bt319 => ((tikref13_SameScan.f kj6 bt319.1 bt319.2.1 bt319.2.2.1 bt319.2.2.2 bt307.1 bt307.2.1 bt307.2.2.1 bt307.2.2.2.1).bind fun t325 => (if t325 = true then (some (bt299.2.2.2.2 == bt307.2.2.2.2)) else (some false)))) else (some false)) else (some false))) else (some false)) else ((tikref_Bytes.f t291 t295).bind fun t326 => (if t326 = true then (if t294 = t296 then ((tiklaw16_Plain.f kj6 bt299.1 bt299.2.1 bt299.2.2.1 bt299.2.2.2.1).bind fun bt327 => ((tikref13_SameScan.f kj6 bt327.1 bt327.2.1 bt327.2.2.1 bt327.2.2.2 bt307.1 bt307.2.1 bt307.2.2.1 bt307.2.2.2.1).bind fun t333 => (if t333 = true then (some (bt299.2.2.2.2 == bt307.2.2.2.2)) else (some false)))) else (some false)) else (some false)))) else (some false)) else (some false)))) else (some false))))) = some r := H; have A17 := Aside0.mk A170; clear A170; replace H := Option.bind_eq_some_iff.mp H; obtain ⟨⟨t299, t300, t301, t304, t305⟩, A180, H⟩ := H; replace H : ((tikref13_ReadSeg.f kj6 l3).bind fun bt307 => ((tiklaw16_first.f kj6).bind fun t315 => (if t315 = true then ((seg_Name.f a0).bind fun t316 => ((tikref13_Name.f kj6 a0).bind fun t317 => (if t316.toList = t317.toList then (if (t288 == t290) = true then (if t288 = true then (if t287 = t289 then ((tikref_Bytes.f t291 t295).bind fun t318 => (if t318 = true then (if t294 = t296 then ((tiklaw16_Plain.f kj6 t299 t300 t301 t304).bind fun bt319 => ((tikref13_SameScan.f kj6 bt319.1 bt319.2.1 bt319.2.2.1 bt319.2.2.2 bt307.1 bt307.2.1 bt307.2.2.1 bt307.2.2.2.1).bind fun t325 => (if t325 = true then (some (t305 == bt307.2.2.2.2)) else (some false)))) else (some false)) else (some false))) else (some false)) else ((tikref_Bytes.f t291 t295).bind fun t326 => (if t326 = true then (if t294 = t296 then ((tiklaw16_Plain.f kj6 t299 t300 t301 t304).bind fun bt327 => ((tikref13_SameScan.f kj6 bt327.1 bt327.2.1 bt327.2.2.1 bt327.2.2.2 bt307.1 bt307.2.1 bt307.2.2.1 bt307.2.2.2.1).bind fun t333 => (if t333 = true then (some (t305 == bt307.2.2.2.2)) else (some false)))) else (some false)) else (some false)))) else (some false)) else (some false)))) else (some false)))) = some r := H; have A18 := Aside0.mk A180; clear A180; replace H := Option.bind_eq_some_iff.mp H; obtain ⟨⟨t307, t308, t309, t312, t313⟩, A190, H⟩ := H; replace H : ((tiklaw16_first.f kj6).bind fun t315 => (if t315 = true then ((seg_Name.f a0).bind fun t316 => ((tikref13_Name.f kj6 a0).bind fun t317 => (if t316.toList = t317.toList then (if (t288 == t290) = true then (if t288 = true then (if t287 = t289 then ((tikref_Bytes.f t291 t295).bind fun t318 => (if t318 = true then (if t294 = t296 then ((tiklaw16_Plain.f kj6 t299 t300 t301 t304).bind fun bt319 => ((tikref13_SameScan.f kj6 bt319.1 bt319.2.1 bt319.2.2.1 bt319.2.2.2 t307 t308 t309 t312).bind fun t325 => (if t325 = true then (some (t305 == t313)) else (some false)))) else (some false)) else (some false))) else (some false)) else ((tikref_Bytes.f t291 t295).bind fun t326 => (if t326 = true then (if t294 = t296 then ((tiklaw16_Plain.f kj6 t299 t300 t301 t304).bind fun bt327 => ((tikref13_SameScan.f kj6 bt327.1 bt327.2.1 bt327.2.2.1 bt327.2.2.2 t307 t308 t309 t312).bind fun t333 => (if t333 = true then (some (t305 == t313)) else (some false)))) else (some false)) else (some false)))) else (some false)) else (some false)))) else (some false))) = some r := H; have A19 := Aside0.mk A190; clear A190; replace H := Option.bind_eq_some_iff.mp H; obtain ⟨t315, A200, H⟩ := H; replace H : (if t315 = true then ((seg_Name.f a0).bind fun t316 => ((tikref13_Name.f kj6 a0).bind fun t317 => (if t316.toList = t317.toList then (if (t288 == t290) = true then (if t288 = true then (if t287 = t289 then ((tikref_Bytes.f t291 t295).bind fun t318 => (if t318 = true then (if t294 = t296 then ((tiklaw16_Plain.f kj6 t299 t300 t301 t304).bind fun bt319 => ((tikref13_SameScan.f kj6 bt319.1 bt319.2.1 bt319.2.2.1 bt319.2.2.2 t307 t308 t309 t312).bind fun t325 => (if t325 = true then (some (t305 == t313)) else (some false)))) else (some false)) else (some false))) else (some false)) else ((tikref_Bytes.f t291 t295).bind fun t326 => (if t326 = true then (if t294 = t296 then ((tiklaw16_Plain.f kj6 t299 t300 t301 t304).bind fun bt327 => ((tikref13_SameScan.f kj6 bt327.1 bt327.2.1 bt327.2.2.1 bt327.2.2.2 t307 t308 t309 t312).bind fun t333 => (if t333 = true then (some (t305 == t313)) else (some false)))) else (some false)) else (some false)))) else (some false)) else (some false)))) else (some false)) = some r := H; have A20 := Aside0.mk A200; clear A200
    by_cases c21 : t315 = true
    rotate_left
    ·replace c21 := Bool.eq_false_iff.mpr c21
     subst c21; (have H1 : (some false) = some r := by rw [if_neg (show ¬ (false = true) by decide)] at H; exact H); clear H; have H := H1; clear H1; exact absurd ((Option.some.inj H).trans hr_.out) (by simp)
    subst c21; (have H1 : ((seg_Name.f a0).bind fun t316 => ((tikref13_Name.f kj6 a0).bind fun t317 => (if t316.toList = t317.toList then (if (t288 == t290) = true then (if t288 = true then (if t287 = t289 then ((tikref_Bytes.f t291 t295).bind fun t318 => (if t318 = true then (if t294 = t296 then ((tiklaw16_Plain.f kj6 t299 t300 t301 t304).bind fun bt319 => ((tikref13_SameScan.f kj6 bt319.1 bt319.2.1 bt319.2.2.1 bt319.2.2.2 t307 t308 t309 t312).bind fun t325 => (if t325 = true then (some (t305 == t313)) else (some false)))) else (some false)) else (some false))) else (some false)) else ((tikref_Bytes.f t291 t295).bind fun t326 => (if t326 = true then (if t294 = t296 then ((tiklaw16_Plain.f kj6 t299 t300 t301 t304).bind fun bt327 => ((tikref13_SameScan.f kj6 bt327.1 bt327.2.1 bt327.2.2.1 bt327.2.2.2 t307 t308 t309 t312).bind fun t333 => (if t333 = true then (some (t305 == t313)) else (some false)))) else (some false)) else (some false)))) else (some false)) else (some false)))) = some r := by rw [if_pos rfl] at H; exact H); clear H; have H := H1; clear H1; replace H := Option.bind_eq_some_iff.mp H; obtain ⟨t316, A220, H⟩ := H; replace H : ((tikref13_Name.f kj6 a0).bind fun t317 => (if t316.toList = t317.toList then (if (t288 == t290) = true then (if t288 = true then (if t287 = t289 then ((tikref_Bytes.f t291 t295).bind fun t318 => (if t318 = true then (if t294 = t296 then ((tiklaw16_Plain.f kj6 t299 t300 t301 t304).bind fun bt319 => ((tikref13_SameScan.f kj6 bt319.1 bt319.2.1 bt319.2.2.1 bt319.2.2.2 t307 t308 t309 t312).bind fun t325 => (if t325 = true then (some (t305 == t313)) else (some false)))) else (some false)) else (some false))) else (some false)) else ((tikref_Bytes.f t291 t295).bind fun t326 => (if t326 = true then (if t294 = t296 then ((tiklaw16_Plain.f kj6 t299 t300 t301 t304).bind fun bt327 => ((tikref13_SameScan.f kj6 bt327.1 bt327.2.1 bt327.2.2.1 bt327.2.2.2 t307 t308 t309 t312).bind fun t333 => (if t333 = true then (some (t305 == t313)) else (some false)))) else (some false)) else (some false)))) else (some false)) else (some false))) = some r := H; have A22 := Aside0.mk A220; clear A220; replace H := Option.bind_eq_some_iff.mp H; obtain ⟨t317, A230, H⟩ := H; replace H : (if t316.toList = t317.toList then (if (t288 == t290) = true then (if t288 = true then (if t287 = t289 then ((tikref_Bytes.f t291 t295).bind fun t318 => (if t318 = true then (if t294 = t296 then ((tiklaw16_Plain.f kj6 t299 t300 t301 t304).bind fun bt319 => ((tikref13_SameScan.f kj6 bt319.1 bt319.2.1 bt319.2.2.1 bt319.2.2.2 t307 t308 t309 t312).bind fun t325 => (if t325 = true then (some (t305 == t313)) else (some false)))) else (some false)) else (some false))) else (some false)) else ((tikref_Bytes.f t291 t295).bind fun t326 => (if t326 = true then (if t294 = t296 then ((tiklaw16_Plain.f kj6 t299 t300 t301 t304).bind fun bt327 => ((tikref13_SameScan.f kj6 bt327.1 bt327.2.1 bt327.2.2.1 bt327.2.2.2 t307 t308 t309 t312).bind fun t333 => (if t333 = true then (some (t305 == t313)) else (some false)))) else (some false)) else (some false)))) else (some false)) else (some false)) = some r := H; have A23 := Aside0.mk A230; clear A230
    by_cases c24 : t316.toList = t317.toList
    rotate_left
    ·rw [if_neg c24] at H
     have c24b0 : (t316.toList == t317.toList) = false := beq_eq_false_iff_ne.mpr c24; have c24b1 : (t316.toList != t317.toList) = true := bne_iff_ne.mpr c24; exact absurd ((Option.some.inj H).trans hr_.out) (by simp)
    (rw [if_pos c24] at H); have c24b0 : (t316.toList == t317.toList) = true := beq_iff_eq.mpr c24; have c24b1 : (t316.toList != t317.toList) = false := bne_eq_false_iff_eq.mpr c24; clear c24
    by_cases c25 : (t288 == t290) = true
    rotate_left
    ·rw [if_neg c25] at H
     (have c25b0 : (t288 == t290) = false := by simpa using c25); (try (have c25b1 : decide (t288 = t290) = false := by simpa using c25)); (try (have c25b2 : (t288 == t290) = false := by simpa using c25)); (try (have c25b3 : ¬ (t288 = t290) := by simpa using c25)); clear c25; exact absurd ((Option.some.inj H).trans hr_.out) (by simp)
    (rw [if_pos c25] at H); have c25b0 : (t288 == t290) = true := c25; (try (have c25b1 : decide (t288 = t290) = true := by simpa using c25)); (try (have c25b2 : (t288 == t290) = true := by simpa using c25)); clear c25
    by_cases c26 : t288 = true
    rotate_left
    ·replace c26 := Bool.eq_false_iff.mpr c26
     subst c26; (have H1 : ((tikref_Bytes.f t291 t295).bind fun t326 => (if t326 = true then (if t294 = t296 then ((tiklaw16_Plain.f kj6 t299 t300 t301 t304).bind fun bt327 => ((tikref13_SameScan.f kj6 bt327.1 bt327.2.1 bt327.2.2.1 bt327.2.2.2 t307 t308 t309 t312).bind fun t333 => (if t333 = true then (some (t305 == t313)) else (some false)))) else (some false)) else (some false))) = some r := by rw [if_neg (show ¬ (false = true) by decide)] at H; exact H); clear H; have H := H1; clear H1; replace H := Option.bind_eq_some_iff.mp H; obtain ⟨t326, A600, H⟩ := H; replace H : (if t326 = true then (if t294 = t296 then ((tiklaw16_Plain.f kj6 t299 t300 t301 t304).bind fun bt327 => ((tikref13_SameScan.f kj6 bt327.1 bt327.2.1 bt327.2.2.1 bt327.2.2.2 t307 t308 t309 t312).bind fun t333 => (if t333 = true then (some (t305 == t313)) else (some false)))) else (some false)) else (some false)) = some r := H; have A60 := Aside0.mk A600; clear A600
     by_cases c61 : t326 = true
     rotate_left
     ·replace c61 := Bool.eq_false_iff.mpr c61
      subst c61; (have H1 : (some false) = some r := by rw [if_neg (show ¬ (false = true) by decide)] at H; exact H); clear H; have H := H1; clear H1; exact absurd ((Option.some.inj H).trans hr_.out) (by simp)
     subst c61; (have H1 : (if t294 = t296 then ((tiklaw16_Plain.f kj6 t299 t300 t301 t304).bind fun bt327 => ((tikref13_SameScan.f kj6 bt327.1 bt327.2.1 bt327.2.2.1 bt327.2.2.2 t307 t308 t309 t312).bind fun t333 => (if t333 = true then (some (t305 == t313)) else (some false)))) else (some false)) = some r := by rw [if_pos rfl] at H; exact H); clear H; have H := H1; clear H1
     by_cases c62 : t294 = t296
     rotate_left
     ·rw [if_neg c62] at H
      have c62b0 : (t294 == t296) = false := beq_eq_false_iff_ne.mpr c62; have c62b1 : (t294 != t296) = true := bne_iff_ne.mpr c62; exact absurd ((Option.some.inj H).trans hr_.out) (by simp)
     (rw [if_pos c62] at H); have c62b0 : (t294 == t296) = true := beq_iff_eq.mpr c62; have c62b1 : (t294 != t296) = false := bne_eq_false_iff_eq.mpr c62; clear c62; replace H := Option.bind_eq_some_iff.mp H; obtain ⟨⟨t327, t328, t329, t332⟩, A630, H⟩ := H; replace H : ((tikref13_SameScan.f kj6 t327 t328 t329 t332 t307 t308 t309 t312).bind fun t333 => (if t333 = true then (some (t305 == t313)) else (some false))) = some r := H; have A63 := Aside0.mk A630; clear A630; replace H := Option.bind_eq_some_iff.mp H; obtain ⟨t333, A640, H⟩ := H; replace H : (if t333 = true then (some (t305 == t313)) else (some false)) = some r := H; have A64 := Aside0.mk A640; clear A640
     by_cases c65 : t333 = true
     rotate_left
     ·replace c65 := Bool.eq_false_iff.mpr c65
      subst c65; (have H1 : (some false) = some r := by rw [if_neg (show ¬ (false = true) by decide)] at H; exact H); clear H; have H := H1; clear H1; exact absurd ((Option.some.inj H).trans hr_.out) (by simp)
     subst c65; (have H1 : (some (t305 == t313)) = some r := by rw [if_pos rfl] at H; exact H); clear H; have H := H1; clear H1; obtain rfl := Option.some.inj H
     try go_wp2_with (first | ((with_reducible refine gate_callee (f := 30) rfl ?_); refine goesL_ (some 34) rfl rfl Tryd.func30 (by kernel_rfl) rfl #[.string a1] rfl (by (try simp only [List.map_toArray, List.map_cons, List.map_nil]); first | done | rfl | (simp only [List.length_drop, List.length_take]; rfl)) ?_; (with_reducible refine (seg_Number.calls kj6 a1 t287 false _ ?side1 A14.out).mono ?_); (case side1 => first | (with_reducible exact HT.out) | exact tabAt HT.out (by repeat (first | (with_reducible first | exact HB.out | apply yA | apply yN | apply yD | refine yS ?_ GE284.out) | exact HB.out))); rintro e w66 ⟨rfl, hb⟩; refine ⟨_, rfl, ?_⟩; have n0_ := Aside0.mk (blk_below (g := gb284) (o := .cells #[.int .i64 a2_0, .int .u64 a2_1] 63 (0, 0)) (bx_ BK284) hb); have n1_ := Aside0.mk (below_step (by repeat (first | (with_reducible first | exact HB.out | apply yA | apply yN | apply yD | refine yS ?_ GE284.out) | exact HB.out)) hb); clear BK284; clear HB; have BK284 := n0_; have HB := n1_; clear n0_ n1_; (try clear hb); (try clear hb2); (try clear hk); (try clear hi)) | ((with_reducible refine gate_callee (f := 31) rfl ?_); refine goesL_ (some 39) rfl rfl Tryd.func31 (by kernel_rfl) rfl #[.string a1] rfl (by (try simp only [List.map_toArray, List.map_cons, List.map_nil]); first | done | rfl | (simp only [List.length_drop, List.length_take]; rfl)) ?_; (with_reducible refine (tikref13_Number.calls kj6 a1 t289 t290 _ A15.out).mono ?_); rintro e w' ⟨rfl, ⟨nd, rfl⟩⟩; refine ⟨_, rfl, ?_⟩; (try (rw [drewN_self w66]; generalize hq_ : World.drewN w66 _ = w66; have n0_ : Aside0 (w66.heap[gb284]? = some (.cells #[.int .i64 a2_0, .int .u64 a2_1] 63 (0, 0))) := ⟨by rw [← hq_]; exact (bx_ BK284)⟩; have n1_ : Aside0 (Below w.heap.size w w66) := ⟨by rw [← hq_]; exact (by repeat (first | (with_reducible first | exact HB.out | apply yA | apply yN | apply yD | refine yS ?_ GE284.out) | exact HB.out))⟩; clear BK284 HB hq_; have BK284 := n0_; have HB := n1_; clear n0_ n1_)); have hcz67_0 : w66.cell? ⟨gb284, 0, none⟩ = some (.int .i64 a2_0) := (blk_cell BK284.out 0).trans rfl; have hcz67_1 : w66.cell? ⟨gb284, 1, none⟩ = some (.int .u64 a2_1) := (blk_cell BK284.out 1).trans rfl; have hfz67_0 := blk_frozen BK284.out 0; have hfz67_1 := blk_frozen BK284.out 1) | ((with_reducible refine gate_callee (f := 32) rfl ?_); refine goesL_ (some 44) rfl rfl Tryd.func32 (by kernel_rfl) rfl #[.agg #[.int .i64 a2_0, .int .u64 a2_1]] rfl (by (try simp only [List.map_toArray, List.map_cons, List.map_nil]); first | done | rfl | (simp only [List.length_drop, List.length_take]; rfl)) ?_; (with_reducible refine (seg_Header.calls kj6 a2_0 a2_1 t291 t294 _ A16.out).mono ?_); rintro e w68 ⟨v292, rfl, ho0, hb⟩; refine ⟨_, rfl, ?_⟩; have n0_ := Aside0.mk (Kd.R_lower ho0 (below_size (by repeat (first | (with_reducible first | exact HB.out | apply yA | apply yN | apply yD | refine yS ?_ GE284.out) | exact HB.out)))); have n1_ := Aside0.mk (blk_below (g := gb284) (o := .cells #[.int .i64 a2_0, .int .u64 a2_1] 63 (0, 0)) (bx_ BK284) hb); have n2_ := Aside0.mk (below_step (by repeat (first | (with_reducible first | exact HB.out | apply yA | apply yN | apply yD | refine yS ?_ GE284.out) | exact HB.out)) hb); clear BK284; clear HB; have HO293 := n0_; have BK284 := n1_; have HB := n2_; clear n0_ n1_ n2_; (try clear hb); (try clear hb2); (try clear hk); (try clear hi); (try clear ho0); have hcz69_0 : w68.cell? ⟨gb284, 0, none⟩ = some (.int .i64 a2_0) := (blk_cell BK284.out 0).trans rfl; have hcz69_1 : w68.cell? ⟨gb284, 1, none⟩ = some (.int .u64 a2_1) := (blk_cell BK284.out 1).trans rfl; have hfz69_0 := blk_frozen BK284.out 0; have hfz69_1 := blk_frozen BK284.out 1) | ((with_reducible refine gate_callee (f := 33) rfl ?_); refine goesL_ (some 52) rfl rfl Tryd.func33 (by kernel_rfl) rfl #[.int .i64 a2_0, .int .u64 a2_1] rfl (by (try simp only [List.map_toArray, List.map_cons, List.map_nil]); first | done | rfl | (simp only [List.length_drop, List.length_take]; rfl)) ?_; (with_reducible refine (tikref13_Header.calls kj6 a2_0 a2_1 t295 t296 _ A17.out).mono ?_); rintro e w70 ⟨v297, rfl, ho0, hb⟩; refine ⟨_, rfl, ?_⟩; have n0_ := Aside0.mk (Kd.R_elder' (rx_ HO293) (by first | exact Kd.R_base ho0 | exact Kd.S_base ho0) hb); have n1_ := Aside0.mk (Kd.R_lower (Kd.R_new' ho0 (Kd.R_lt (rx_ HO293))) (below_size (by repeat (first | (with_reducible first | exact HB.out | apply yA | apply yN | apply yD | refine yS ?_ GE284.out) | exact HB.out)))); have n2_ := Aside0.mk (blk_below (g := gb284) (o := .cells #[.int .i64 a2_0, .int .u64 a2_1] 63 (0, 0)) (bx_ BK284) hb); have n3_ := Aside0.mk (below_step (by repeat (first | (with_reducible first | exact HB.out | apply yA | apply yN | apply yD | refine yS ?_ GE284.out) | exact HB.out)) hb); clear HO293; clear BK284; clear HB; have HO293 := n0_; have HO298 := n1_; have BK284 := n2_; have HB := n3_; clear n0_ n1_ n2_ n3_; (try clear hb); (try clear hb2); (try clear hk); (try clear hi); (try clear ho0)) | ((with_reducible refine gate_callee (f := 34) rfl ?_); refine goesL_ (some 57) rfl rfl Tryd.func34 (by kernel_rfl) rfl #[.slice A3 l3.length c3] rfl (by (try simp only [List.map_toArray, List.map_cons, List.map_nil]); first | done | rfl | (simp only [List.length_drop, List.length_take]; rfl)) ?_; (with_reducible refine (seg_Read.calls kj6 _ _ l3 t299 t300 t301 t304 t305 _ ?side1 ?side2 A18.out).mono ?_); (case side1 => repeat (first | exact (Kd.C_below HR3.out HB.out) | (with_reducible refine Kd.C_alloc ?_ _) | (with_reducible refine Kd.C_drewN ?_ _) | (with_reducible refine Kd.C_drew ?_))); (case side2 => exact HC3.out); rintro e w71 ⟨v302, rfl, ho0, hb⟩; refine ⟨_, rfl, ?_⟩; have n0_ := Aside0.mk (Kd.R_below (rx_ HO293) hb); have n1_ := Aside0.mk (Kd.R_below (rx_ HO298) hb); have n2_ := Aside0.mk (Kd.N_lower (Kd.N_mono (ok' := fun k_ => some k_ ≠ (v292 : Value).ownBlock ∧ some k_ ≠ (v297 : Value).ownBlock ∧ k_ ≠ gb284) (Kd.S_N (Kd.S_bound ho0)) (fun k_ hk_ => ⟨(Kd.fresh' (Kd.R_lt (rx_ HO293)) k_ hk_.2.1), (Kd.fresh' (Kd.R_lt (rx_ HO298)) k_ hk_.2.1), (Kd.freshB (g := gb284) (o := .cells #[.int .i64 a2_0, .int .u64 a2_1] 63 (0, 0)) (bx_ BK284) k_ hk_.2.1)⟩)) (below_size (by repeat (first | (with_reducible first | exact HB.out | apply yA | apply yN | apply yD | refine yS ?_ GE284.out) | exact HB.out)))); have n3_ := Aside0.mk (blk_below (g := gb284) (o := .cells #[.int .i64 a2_0, .int .u64 a2_1] 63 (0, 0)) (bx_ BK284) hb); have n4_ := Aside0.mk (below_step (by repeat (first | (with_reducible first | exact HB.out | apply yA | apply yN | apply yD | refine yS ?_ GE284.out) | exact HB.out)) hb); clear HO293; clear HO298; clear BK284; clear HB; have HO293 := n0_; have HO298 := n1_; have HO303 := n2_; have BK284 := n3_; have HB := n4_; clear n0_ n1_ n2_ n3_ n4_; (try clear hb); (try clear hb2); (try clear hk); (try clear hi); (try clear ho0)) | ((with_reducible refine gate_dst (N := 17) rfl ?_); (try (refine gate_guard (by rfl) ?_; dsimp only)); refine box_event ?hg (N := 17) ?hd (cs := #[.int .i64 0, .int .u64 0, .slice none 0 0, .int .i64 0]) (t := 72) ?hr ?_; (case hd => rfl); (case hg => rfl); (case hr => first | (go_simp; done) | (go_simp; rfl)); intro gb306 hg w72 hbox hb; have n0_ := Aside0.mk (Kd.R_below (rx_ HO293) hb); have n1_ := Aside0.mk (Kd.R_below (rx_ HO298) hb); have n2_ := Aside0.mk (Kd.N_below (Kd.N_elderB (nx_ HO303) gb306 (Nat.le_of_eq hg.symm)) hb); have n3_ := Aside0.mk (blk_below (g := gb284) (o := .cells #[.int .i64 a2_0, .int .u64 a2_1] 63 (0, 0)) (bx_ BK284) hb); have n4_ := Aside0.mk (below_step (by repeat (first | (with_reducible first | exact HB.out | apply yA | apply yN | apply yD | refine yS ?_ GE284.out) | exact HB.out)) hb); have n5_ := Aside0.mk (hbox); have n6_ := Aside0.mk ((by rw [hg]; exact (below_size (by repeat (first | (with_reducible first | exact HB.out | apply yA | apply yN | apply yD | refine yS ?_ GE284.out) | exact HB.out))) : w.heap.size ≤ gb306)); have n7_ := Aside0.mk ((by rw [hg]; exact (below_size (by repeat (first | (with_reducible first | exact HB.out | apply yA | apply yN | apply yD | refine yS ?_ GE284.out) | exact HB.out))) : w.heap.size ≤ gb306)); have n8_ := Aside0.mk ((by rw [hg]; exact Nat.ne_of_lt (blk_lt (g := gb284) (o := .cells #[.int .i64 a2_0, .int .u64 a2_1] 63 (0, 0)) (bx_ BK284)) : gb284 ≠ gb306)); have n9_ := Aside0.mk ((by rw [hg]; exact Nat.ne_of_gt (blk_lt (g := gb284) (o := .cells #[.int .i64 a2_0, .int .u64 a2_1] 63 (0, 0)) (bx_ BK284)) : gb306 ≠ gb284)); clear HO293; clear HO298; clear HO303; clear BK284; clear HB; have HO293 := n0_; have HO298 := n1_; have HO303 := n2_; have BK284 := n3_; have HB := n4_; have BK306 := n5_; have GW306 := n6_; have GE306 := n7_; have NB284_306 := n8_; have NB306_284 := n9_; clear n0_ n1_ n2_ n3_ n4_ n5_ n6_ n7_ n8_ n9_; clear hb hbox hg; have hnb73 := NB306_284.out; have hnc73 := NB284_306.out; have hcz74_0 : w72.cell? ⟨gb306, 0, none⟩ = some (.int .i64 0) := (blk_cell BK306.out 0).trans rfl; have hcz74_1 : w72.cell? ⟨gb306, 1, none⟩ = some (.int .u64 0) := (blk_cell BK306.out 1).trans rfl; have hcz74_2 : w72.cell? ⟨gb306, 2, none⟩ = some (.slice none 0 0) := (blk_cell BK306.out 2).trans rfl; have hcz74_3 : w72.cell? ⟨gb306, 3, none⟩ = some (.int .i64 0) := (blk_cell BK306.out 3).trans rfl; have hfz74_0 := blk_frozen BK306.out 0; have hfz74_1 := blk_frozen BK306.out 1; have hfz74_2 := blk_frozen BK306.out 2; have hfz74_3 := blk_frozen BK306.out 3; obtain ⟨Ao75, co75, eo75⟩ := Kd.N_slice HO303.out; subst eo75) | ((with_reducible refine gate_callee (f := 35) rfl ?_); refine goesL_ (some 62) rfl rfl Tryd.func35 (by kernel_rfl) rfl #[.slice A3 l3.length c3] rfl (by (try simp only [List.map_toArray, List.map_cons, List.map_nil]); first | done | rfl | (simp only [List.length_drop, List.length_take]; rfl)) ?_; (with_reducible refine (tikref13_ReadSeg.calls kj6 _ _ l3 t307 t308 t309 t312 t313 _ ?side1 ?side2 A19.out).mono ?_); (case side1 => exact Kd.C_below HR3.out (by repeat (first | (with_reducible first | exact HB.out | apply yA | apply yN | apply yD | refine yS ?_ GE284.out | refine yS ?_ GE306.out) | exact HB.out))); (case side2 => exact HC3.out); rintro e w76 ⟨v310, rfl, ho0, hb⟩; refine ⟨_, rfl, ?_⟩; have n0_ := Aside0.mk (Kd.R_below (by (with_reducible repeat first | apply rA_ | apply rN_ | apply rD_); exact (Kd.R_mono (Kd.R_far (p := ⟨gb306, 3, none⟩) (Kd.R_far (p := ⟨gb306, 2, none⟩) (Kd.R_far (p := ⟨gb306, 1, none⟩) (Kd.R_far (p := ⟨gb306, 0, none⟩) (Kd.R_types HO293.out BK306.out (by decide)) (fun _ hk => hk.2) (.int .i64 t299)) (fun _ hk => hk.2) (.int .u64 t300)) (fun _ hk => hk.2) (.slice Ao75 t301.length co75)) (fun _ hk => hk.2) (.int .i64 t304)) (fun _ h_ => h_.1))) hb); have n1_ := Aside0.mk (Kd.R_below (by (with_reducible repeat first | apply rA_ | apply rN_ | apply rD_); exact (Kd.R_mono (Kd.R_far (p := ⟨gb306, 3, none⟩) (Kd.R_far (p := ⟨gb306, 2, none⟩) (Kd.R_far (p := ⟨gb306, 1, none⟩) (Kd.R_far (p := ⟨gb306, 0, none⟩) (Kd.R_types HO298.out BK306.out (by decide)) (fun _ hk => hk.2) (.int .i64 t299)) (fun _ hk => hk.2) (.int .u64 t300)) (fun _ hk => hk.2) (.slice Ao75 t301.length co75)) (fun _ hk => hk.2) (.int .i64 t304)) (fun _ h_ => h_.1))) hb); have n2_ := Aside0.mk (Kd.N_elder' (by (with_reducible repeat first | apply nA_ | apply nN_ | apply nD_); exact (Kd.N_mono (Kd.N_far (p := ⟨gb306, 3, none⟩) (Kd.N_far (p := ⟨gb306, 2, none⟩) (Kd.N_far (p := ⟨gb306, 1, none⟩) (Kd.N_far (p := ⟨gb306, 0, none⟩) (Kd.N_mono HO303.out (fun k_ hk => (⟨hk, hk.2⟩ : _ ∧ k_ ≠ gb306))) (fun _ hk => hk.2) (.int .i64 t299)) (fun _ hk => hk.2) (.int .u64 t300)) (fun _ hk => hk.2) (.slice Ao75 t301.length co75)) (fun _ hk => hk.2) (.int .i64 t304)) (fun _ h_ => h_.1))) (by first | exact Kd.N_base ho0 | exact Kd.R_base ho0 | exact Kd.S_base ho0) hb); have n3_ := Aside0.mk (Kd.N_lower (Kd.N_mono (ok' := fun k_ => some k_ ≠ (v292 : Value).ownBlock ∧ some k_ ≠ (v297 : Value).ownBlock ∧ some k_ ≠ (.slice Ao75 t301.length co75 : Value).ownBlock ∧ k_ ≠ gb284 ∧ k_ ≠ gb306) (Kd.S_N (Kd.S_bound ho0)) (fun k_ hk_ => ⟨(Kd.fresh' (Kd.R_lt (by (with_reducible repeat first | apply rA_ | apply rN_ | apply rD_); exact (Kd.R_mono (Kd.R_far (p := ⟨gb306, 3, none⟩) (Kd.R_far (p := ⟨gb306, 2, none⟩) (Kd.R_far (p := ⟨gb306, 1, none⟩) (Kd.R_far (p := ⟨gb306, 0, none⟩) (Kd.R_types HO293.out BK306.out (by decide)) (fun _ hk => hk.2) (.int .i64 t299)) (fun _ hk => hk.2) (.int .u64 t300)) (fun _ hk => hk.2) (.slice Ao75 t301.length co75)) (fun _ hk => hk.2) (.int .i64 t304)) (fun _ h_ => h_.1)))) k_ hk_.2.1), (Kd.fresh' (Kd.R_lt (by (with_reducible repeat first | apply rA_ | apply rN_ | apply rD_); exact (Kd.R_mono (Kd.R_far (p := ⟨gb306, 3, none⟩) (Kd.R_far (p := ⟨gb306, 2, none⟩) (Kd.R_far (p := ⟨gb306, 1, none⟩) (Kd.R_far (p := ⟨gb306, 0, none⟩) (Kd.R_types HO298.out BK306.out (by decide)) (fun _ hk => hk.2) (.int .i64 t299)) (fun _ hk => hk.2) (.int .u64 t300)) (fun _ hk => hk.2) (.slice Ao75 t301.length co75)) (fun _ hk => hk.2) (.int .i64 t304)) (fun _ h_ => h_.1)))) k_ hk_.2.1), (Kd.fresh' (Kd.N_lt (by (with_reducible repeat first | apply nA_ | apply nN_ | apply nD_); exact (Kd.N_mono (Kd.N_far (p := ⟨gb306, 3, none⟩) (Kd.N_far (p := ⟨gb306, 2, none⟩) (Kd.N_far (p := ⟨gb306, 1, none⟩) (Kd.N_far (p := ⟨gb306, 0, none⟩) (Kd.N_mono HO303.out (fun k_ hk => (⟨hk, hk.2⟩ : _ ∧ k_ ≠ gb306))) (fun _ hk => hk.2) (.int .i64 t299)) (fun _ hk => hk.2) (.int .u64 t300)) (fun _ hk => hk.2) (.slice Ao75 t301.length co75)) (fun _ hk => hk.2) (.int .i64 t304)) (fun _ h_ => h_.1)))) k_ hk_.2.1), (Kd.freshB (g := gb284) (o := .cells #[.int .i64 a2_0, .int .u64 a2_1] 63 (0, 0)) (by (with_reducible repeat first | apply zN | apply zD | apply zA); refine blk_far ?_ NB284_306.out _; (with_reducible repeat first | apply zN | apply zD | apply zA); refine blk_far ?_ NB284_306.out _; (with_reducible repeat first | apply zN | apply zD | apply zA); refine blk_far ?_ NB284_306.out _; (with_reducible repeat first | apply zN | apply zD | apply zA); refine blk_far ?_ NB284_306.out _; (with_reducible repeat first | apply zN | apply zD | apply zA); exact BK284.out) k_ hk_.2.1), (Kd.freshB (g := gb306) (o := .cells #[.int .i64 t299, .int .u64 t300, .slice Ao75 t301.length co75, .int .i64 t304] 72 (0, 0)) (by (with_reducible repeat first | apply zN | apply zD | apply zA); refine blk_put (cs := #[.int .i64 t299, .int .u64 t300, .slice Ao75 t301.length co75, .int .i64 0]) ?_ 3 _ rfl; (with_reducible repeat first | apply zN | apply zD | apply zA); refine blk_put (cs := #[.int .i64 t299, .int .u64 t300, .slice none 0 0, .int .i64 0]) ?_ 2 _ rfl; (with_reducible repeat first | apply zN | apply zD | apply zA); refine blk_put (cs := #[.int .i64 t299, .int .u64 0, .slice none 0 0, .int .i64 0]) ?_ 1 _ rfl; (with_reducible repeat first | apply zN | apply zD | apply zA); refine blk_put (cs := #[.int .i64 0, .int .u64 0, .slice none 0 0, .int .i64 0]) ?_ 0 _ rfl; (with_reducible repeat first | apply zN | apply zD | apply zA); exact BK306.out) k_ hk_.2.1)⟩)) (below_size (by repeat (first | (with_reducible first | exact HB.out | apply yA | apply yN | apply yD | refine yS ?_ GE284.out | refine yS ?_ GE306.out) | exact HB.out)))); have n4_ := Aside0.mk (blk_below (g := gb284) (o := .cells #[.int .i64 a2_0, .int .u64 a2_1] 63 (0, 0)) (by (with_reducible repeat first | apply zN | apply zD | apply zA); refine blk_far ?_ NB284_306.out _; (with_reducible repeat first | apply zN | apply zD | apply zA); refine blk_far ?_ NB284_306.out _; (with_reducible repeat first | apply zN | apply zD | apply zA); refine blk_far ?_ NB284_306.out _; (with_reducible repeat first | apply zN | apply zD | apply zA); refine blk_far ?_ NB284_306.out _; (with_reducible repeat first | apply zN | apply zD | apply zA); exact BK284.out) hb); have n5_ := Aside0.mk (blk_below (g := gb306) (o := .cells #[.int .i64 t299, .int .u64 t300, .slice Ao75 t301.length co75, .int .i64 t304] 72 (0, 0)) (by (with_reducible repeat first | apply zN | apply zD | apply zA); refine blk_put (cs := #[.int .i64 t299, .int .u64 t300, .slice Ao75 t301.length co75, .int .i64 0]) ?_ 3 _ rfl; (with_reducible repeat first | apply zN | apply zD | apply zA); refine blk_put (cs := #[.int .i64 t299, .int .u64 t300, .slice none 0 0, .int .i64 0]) ?_ 2 _ rfl; (with_reducible repeat first | apply zN | apply zD | apply zA); refine blk_put (cs := #[.int .i64 t299, .int .u64 0, .slice none 0 0, .int .i64 0]) ?_ 1 _ rfl; (with_reducible repeat first | apply zN | apply zD | apply zA); refine blk_put (cs := #[.int .i64 0, .int .u64 0, .slice none 0 0, .int .i64 0]) ?_ 0 _ rfl; (with_reducible repeat first | apply zN | apply zD | apply zA); exact BK306.out) hb); have n6_ := Aside0.mk (below_step (by repeat (first | (with_reducible first | exact HB.out | apply yA | apply yN | apply yD | refine yS ?_ GE284.out | refine yS ?_ GE306.out) | exact HB.out)) hb); clear HO293; clear HO298; clear HO303; clear BK284; clear BK306; clear HB; have HO293 := n0_; have HO298 := n1_; have HO303 := n2_; have HO311 := n3_; have BK284 := n4_; have BK306 := n5_; have HB := n6_; clear n0_ n1_ n2_ n3_ n4_ n5_ n6_; (try clear hb); (try clear hb2); (try clear hk); (try clear hi); (try clear ho0)) | ((with_reducible refine gate_dst (N := 19) rfl ?_); (try (refine gate_guard (by rfl) ?_; dsimp only)); refine box_event ?hg (N := 19) ?hd (cs := #[.int .i64 0, .int .u64 0, .slice none 0 0, .int .i64 0]) (t := 77) ?hr ?_; (case hd => rfl); (case hg => rfl); (case hr => first | (go_simp; done) | (go_simp; rfl)); intro gb314 hg w77 hbox hb; have n0_ := Aside0.mk (Kd.R_below (rx_ HO293) hb); have n1_ := Aside0.mk (Kd.R_below (rx_ HO298) hb); have n2_ := Aside0.mk (Kd.N_below (Kd.N_elderB (nx_ HO303) gb314 (Nat.le_of_eq hg.symm)) hb); have n3_ := Aside0.mk (Kd.N_below (Kd.N_elderB (nx_ HO311) gb314 (Nat.le_of_eq hg.symm)) hb); have n4_ := Aside0.mk (blk_below (g := gb284) (o := .cells #[.int .i64 a2_0, .int .u64 a2_1] 63 (0, 0)) (bx_ BK284) hb); have n5_ := Aside0.mk (blk_below (g := gb306) (o := .cells #[.int .i64 t299, .int .u64 t300, .slice Ao75 t301.length co75, .int .i64 t304] 72 (0, 0)) (bx_ BK306) hb); have n6_ := Aside0.mk (below_step (by repeat (first | (with_reducible first | exact HB.out | apply yA | apply yN | apply yD | refine yS ?_ GE284.out | refine yS ?_ GE306.out) | exact HB.out)) hb); have n7_ := Aside0.mk (hbox); have n8_ := Aside0.mk ((by rw [hg]; exact (below_size (by repeat (first | (with_reducible first | exact HB.out | apply yA | apply yN | apply yD | refine yS ?_ GE284.out | refine yS ?_ GE306.out) | exact HB.out))) : w.heap.size ≤ gb314)); have n9_ := Aside0.mk ((by rw [hg]; exact (below_size (by repeat (first | (with_reducible first | exact HB.out | apply yA | apply yN | apply yD | refine yS ?_ GE284.out | refine yS ?_ GE306.out) | exact HB.out))) : w.heap.size ≤ gb314)); have n10_ := Aside0.mk ((by rw [hg]; exact Nat.ne_of_lt (blk_lt (g := gb284) (o := .cells #[.int .i64 a2_0, .int .u64 a2_1] 63 (0, 0)) (bx_ BK284)) : gb284 ≠ gb314)); have n11_ := Aside0.mk ((by rw [hg]; exact Nat.ne_of_gt (blk_lt (g := gb284) (o := .cells #[.int .i64 a2_0, .int .u64 a2_1] 63 (0, 0)) (bx_ BK284)) : gb314 ≠ gb284)); have n12_ := Aside0.mk ((by rw [hg]; exact Nat.ne_of_lt (blk_lt (g := gb306) (o := .cells #[.int .i64 t299, .int .u64 t300, .slice Ao75 t301.length co75, .int .i64 t304] 72 (0, 0)) (bx_ BK306)) : gb306 ≠ gb314)); have n13_ := Aside0.mk ((by rw [hg]; exact Nat.ne_of_gt (blk_lt (g := gb306) (o := .cells #[.int .i64 t299, .int .u64 t300, .slice Ao75 t301.length co75, .int .i64 t304] 72 (0, 0)) (bx_ BK306)) : gb314 ≠ gb306)); clear HO293; clear HO298; clear HO303; clear HO311; clear BK284; clear BK306; clear HB; have HO293 := n0_; have HO298 := n1_; have HO303 := n2_; have HO311 := n3_; have BK284 := n4_; have BK306 := n5_; have HB := n6_; have BK314 := n7_; have GW314 := n8_; have GE314 := n9_; have NB284_314 := n10_; have NB314_284 := n11_; have NB306_314 := n12_; have NB314_306 := n13_; clear n0_ n1_ n2_ n3_ n4_ n5_ n6_ n7_ n8_ n9_ n10_ n11_ n12_ n13_; clear hb hbox hg; have hnb78 := NB314_284.out; have hnc78 := NB284_314.out; have hnb79 := NB314_306.out; have hnc79 := NB306_314.out; have hcz80_0 : w77.cell? ⟨gb314, 0, none⟩ = some (.int .i64 0) := (blk_cell BK314.out 0).trans rfl; have hcz80_1 : w77.cell? ⟨gb314, 1, none⟩ = some (.int .u64 0) := (blk_cell BK314.out 1).trans rfl; have hcz80_2 : w77.cell? ⟨gb314, 2, none⟩ = some (.slice none 0 0) := (blk_cell BK314.out 2).trans rfl; have hcz80_3 : w77.cell? ⟨gb314, 3, none⟩ = some (.int .i64 0) := (blk_cell BK314.out 3).trans rfl; have hfz80_0 := blk_frozen BK314.out 0; have hfz80_1 := blk_frozen BK314.out 1; have hfz80_2 := blk_frozen BK314.out 2; have hfz80_3 := blk_frozen BK314.out 3; obtain ⟨Ao81, co81, eo81⟩ := Kd.N_slice HO311.out; subst eo81))
     have n0_ : Aside0 (Kd.R (Kd.int .u8) 5 ((((w77.setCell ⟨gb314, 0, none⟩ (.int .i64 t307)).setCell ⟨gb314, 1, none⟩ (.int .u64 t308)).setCell ⟨gb314, 2, none⟩ (.slice Ao81 t309.length co81)).setCell ⟨gb314, 3, none⟩ (.int .i64 t312)) w.heap.size (fun k_ => some k_ ≠ (v297 : Value).ownBlock) v292 t291) := ⟨by (with_reducible repeat first | apply rA_ | apply rN_ | apply rD_); exact Kd.R_mono (Kd.R_far (p := ⟨gb314, 3, none⟩) (Kd.R_far (p := ⟨gb314, 2, none⟩) (Kd.R_far (p := ⟨gb314, 1, none⟩) (Kd.R_far (p := ⟨gb314, 0, none⟩) (Kd.R_types HO293.out BK314.out (by decide)) (fun _ hk => hk.2) (.int .i64 t307)) (fun _ hk => hk.2) (.int .u64 t308)) (fun _ hk => hk.2) (.slice Ao81 t309.length co81)) (fun _ hk => hk.2) (.int .i64 t312)) (fun _ hk => hk.1.2)⟩; have n1_ : Aside0 (Kd.R (Kd.int .u8) 5 ((((w77.setCell ⟨gb314, 0, none⟩ (.int .i64 t307)).setCell ⟨gb314, 1, none⟩ (.int .u64 t308)).setCell ⟨gb314, 2, none⟩ (.slice Ao81 t309.length co81)).setCell ⟨gb314, 3, none⟩ (.int .i64 t312)) w.heap.size (fun k_ => some k_ ≠ (v292 : Value).ownBlock) v297 t295) := ⟨by (with_reducible repeat first | apply rA_ | apply rN_ | apply rD_); exact Kd.R_mono (Kd.R_far (p := ⟨gb314, 3, none⟩) (Kd.R_far (p := ⟨gb314, 2, none⟩) (Kd.R_far (p := ⟨gb314, 1, none⟩) (Kd.R_far (p := ⟨gb314, 0, none⟩) (Kd.R_types HO298.out BK314.out (by decide)) (fun _ hk => hk.2) (.int .i64 t307)) (fun _ hk => hk.2) (.int .u64 t308)) (fun _ hk => hk.2) (.slice Ao81 t309.length co81)) (fun _ hk => hk.2) (.int .i64 t312)) (fun _ hk => hk.1.2)⟩; have n2_ : Aside0 (Kd.N k93 93 ((((w77.setCell ⟨gb314, 0, none⟩ (.int .i64 t307)).setCell ⟨gb314, 1, none⟩ (.int .u64 t308)).setCell ⟨gb314, 2, none⟩ (.slice Ao81 t309.length co81)).setCell ⟨gb314, 3, none⟩ (.int .i64 t312)) w.heap.size (fun k_ => some k_ ≠ (v292 : Value).ownBlock ∧ some k_ ≠ (v297 : Value).ownBlock ∧ some k_ ≠ (.slice Ao81 t309.length co81 : Value).ownBlock ∧ k_ ≠ gb284 ∧ k_ ≠ gb306 ∧ k_ ≠ gb314) (.slice Ao75 t301.length co75) t301) := ⟨by (with_reducible repeat first | apply nA_ | apply nN_ | apply nD_); exact Kd.N_mono (Kd.N_far (p := ⟨gb314, 3, none⟩) (Kd.N_far (p := ⟨gb314, 2, none⟩) (Kd.N_far (p := ⟨gb314, 1, none⟩) (Kd.N_far (p := ⟨gb314, 0, none⟩) (Kd.N_mono HO303.out (fun k_ hk => (⟨hk, hk.2⟩ : _ ∧ k_ ≠ gb314))) (fun _ hk => hk.2) (.int .i64 t307)) (fun _ hk => hk.2) (.int .u64 t308)) (fun _ hk => hk.2) (.slice Ao81 t309.length co81)) (fun _ hk => hk.2) (.int .i64 t312)) (fun _ hk => ⟨hk.1.1.1.1.1, ⟨hk.1.1.1.1.2.1, ⟨hk.1.1.2, ⟨hk.1.1.1.1.2.2, ⟨hk.1.1.1.2, hk.1.2⟩⟩⟩⟩⟩)⟩; have n3_ : Aside0 (Kd.N k127 127 ((((w77.setCell ⟨gb314, 0, none⟩ (.int .i64 t307)).setCell ⟨gb314, 1, none⟩ (.int .u64 t308)).setCell ⟨gb314, 2, none⟩ (.slice Ao81 t309.length co81)).setCell ⟨gb314, 3, none⟩ (.int .i64 t312)) w.heap.size (fun k_ => some k_ ≠ (v292 : Value).ownBlock ∧ some k_ ≠ (v297 : Value).ownBlock ∧ some k_ ≠ (.slice Ao75 t301.length co75 : Value).ownBlock ∧ k_ ≠ gb284 ∧ k_ ≠ gb306 ∧ k_ ≠ gb314) (.slice Ao81 t309.length co81) t309) := ⟨by (with_reducible repeat first | apply nA_ | apply nN_ | apply nD_); exact Kd.N_mono (Kd.N_far (p := ⟨gb314, 3, none⟩) (Kd.N_far (p := ⟨gb314, 2, none⟩) (Kd.N_far (p := ⟨gb314, 1, none⟩) (Kd.N_far (p := ⟨gb314, 0, none⟩) (Kd.N_mono HO311.out (fun k_ hk => (⟨hk, hk.2⟩ : _ ∧ k_ ≠ gb314))) (fun _ hk => hk.2) (.int .i64 t307)) (fun _ hk => hk.2) (.int .u64 t308)) (fun _ hk => hk.2) (.slice Ao81 t309.length co81)) (fun _ hk => hk.2) (.int .i64 t312)) (fun _ hk => ⟨hk.1.1.1, ⟨hk.1.1.2.1, ⟨hk.1.1.2.2.1, ⟨hk.1.1.2.2.2.1, ⟨hk.1.1.2.2.2.2, hk.1.2⟩⟩⟩⟩⟩)⟩; have n4_ : Aside0 (((((w77.setCell ⟨gb314, 0, none⟩ (.int .i64 t307)).setCell ⟨gb314, 1, none⟩ (.int .u64 t308)).setCell ⟨gb314, 2, none⟩ (.slice Ao81 t309.length co81)).setCell ⟨gb314, 3, none⟩ (.int .i64 t312)).heap[gb284]? = some (.cells #[.int .i64 a2_0, .int .u64 a2_1] 63 (0, 0))) := ⟨by (with_reducible repeat first | apply zN | apply zD | apply zA); refine blk_far ?_ NB284_314.out _; (with_reducible repeat first | apply zN | apply zD | apply zA); refine blk_far ?_ NB284_314.out _; (with_reducible repeat first | apply zN | apply zD | apply zA); refine blk_far ?_ NB284_314.out _; (with_reducible repeat first | apply zN | apply zD | apply zA); refine blk_far ?_ NB284_314.out _; (with_reducible repeat first | apply zN | apply zD | apply zA); exact BK284.out⟩; have n5_ : Aside0 (((((w77.setCell ⟨gb314, 0, none⟩ (.int .i64 t307)).setCell ⟨gb314, 1, none⟩ (.int .u64 t308)).setCell ⟨gb314, 2, none⟩ (.slice Ao81 t309.length co81)).setCell ⟨gb314, 3, none⟩ (.int .i64 t312)).heap[gb306]? = some (.cells #[.int .i64 t299, .int .u64 t300, .slice Ao75 t301.length co75, .int .i64 t304] 72 (0, 0))) := ⟨by (with_reducible repeat first | apply zN | apply zD | apply zA); refine blk_far ?_ NB306_314.out _; (with_reducible repeat first | apply zN | apply zD | apply zA); refine blk_far ?_ NB306_314.out _; (with_reducible repeat first | apply zN | apply zD | apply zA); refine blk_far ?_ NB306_314.out _; (with_reducible repeat first | apply zN | apply zD | apply zA); refine blk_far ?_ NB306_314.out _; (with_reducible repeat first | apply zN | apply zD | apply zA); exact BK306.out⟩; have n6_ : Aside0 (((((w77.setCell ⟨gb314, 0, none⟩ (.int .i64 t307)).setCell ⟨gb314, 1, none⟩ (.int .u64 t308)).setCell ⟨gb314, 2, none⟩ (.slice Ao81 t309.length co81)).setCell ⟨gb314, 3, none⟩ (.int .i64 t312)).heap[gb314]? = some (.cells #[.int .i64 t307, .int .u64 t308, .slice Ao81 t309.length co81, .int .i64 t312] 77 (0, 0))) := ⟨by (with_reducible repeat first | apply zN | apply zD | apply zA); refine blk_put (cs := #[.int .i64 t307, .int .u64 t308, .slice Ao81 t309.length co81, .int .i64 0]) ?_ 3 _ rfl; (with_reducible repeat first | apply zN | apply zD | apply zA); refine blk_put (cs := #[.int .i64 t307, .int .u64 t308, .slice none 0 0, .int .i64 0]) ?_ 2 _ rfl; (with_reducible repeat first | apply zN | apply zD | apply zA); refine blk_put (cs := #[.int .i64 t307, .int .u64 0, .slice none 0 0, .int .i64 0]) ?_ 1 _ rfl; (with_reducible repeat first | apply zN | apply zD | apply zA); refine blk_put (cs := #[.int .i64 0, .int .u64 0, .slice none 0 0, .int .i64 0]) ?_ 0 _ rfl; (with_reducible repeat first | apply zN | apply zD | apply zA); exact BK314.out⟩; have n7_ : Aside0 (Below w.heap.size w ((((w77.setCell ⟨gb314, 0, none⟩ (.int .i64 t307)).setCell ⟨gb314, 1, none⟩ (.int .u64 t308)).setCell ⟨gb314, 2, none⟩ (.slice Ao81 t309.length co81)).setCell ⟨gb314, 3, none⟩ (.int .i64 t312))) := ⟨by repeat (first | (with_reducible first | exact HB.out | apply yA | apply yN | apply yD | refine yS ?_ GE284.out | refine yS ?_ GE306.out | refine yS ?_ GE314.out) | exact HB.out)⟩; (try clear HO293); (try clear HO298); (try clear HO303); (try clear HO311); (try clear BK284); (try clear BK306); (try clear BK314); (try clear HB); (generalize ((((w77.setCell ⟨gb314, 0, none⟩ (.int .i64 t307)).setCell ⟨gb314, 1, none⟩ (.int .u64 t308)).setCell ⟨gb314, 2, none⟩ (.slice Ao81 t309.length co81)).setCell ⟨gb314, 3, none⟩ (.int .i64 t312)) = w82 at n0_ n1_ n2_ n3_ n4_ n5_ n6_ n7_ ⊢); have HO293 := n0_; have HO298 := n1_; have HO303 := n2_; have HO311 := n3_; have BK284 := n4_; have BK306 := n5_; have BK314 := n6_; have HB := n7_; clear n0_ n1_ n2_ n3_ n4_ n5_ n6_ n7_; have n0_ := Aside0.mk (Kd.R_drew HO293.out); have n1_ := Aside0.mk (Kd.R_drew HO298.out); have n2_ := Aside0.mk (Kd.N_drew HO303.out); have n3_ := Aside0.mk (Kd.N_drew HO311.out); have n4_ := Aside0.mk (blk_drew BK284.out); have n5_ := Aside0.mk (blk_drew BK306.out); have n6_ := Aside0.mk (blk_drew BK314.out); have n7_ := Aside0.mk (below_drew1 HB.out); clear HO293; clear HO298; clear HO303; clear HO311; clear BK284; clear BK306; clear BK314; clear HB; have HO293 := n0_; have HO298 := n1_; have HO303 := n2_; have HO311 := n3_; have BK284 := n4_; have BK306 := n5_; have BK314 := n6_; have HB := n7_; clear n0_ n1_ n2_ n3_ n4_ n5_ n6_ n7_; refine start_ (n := 44) (S := fun w' => w'.cell? ⟨gb306, 0, none⟩ = some (.int .i64 t299) ∧ w'.cell? ⟨gb306, 1, none⟩ = some (.int .u64 t300) ∧ w'.cell? ⟨gb306, 2, none⟩ = some (.slice Ao75 t301.length co75) ∧ w'.cell? ⟨gb306, 3, none⟩ = some (.int .i64 t304) ∧ w'.cell? ⟨gb314, 0, none⟩ = some (.int .i64 t307) ∧ w'.cell? ⟨gb314, 1, none⟩ = some (.int .u64 t308) ∧ w'.cell? ⟨gb314, 2, none⟩ = some (.slice Ao81 t309.length co81) ∧ w'.cell? ⟨gb314, 3, none⟩ = some (.int .i64 t312)) (ds := []) #[false, false, false, false, false, false, false, false, false, false, false, false, false, false, false, false, false, false, false, false, false, false, false, false, false, false, false, false, false, false, false, false, false, false, false, false, false, false, false, false, false, false, false, false] (by kernel_rfl) rfl rfl ⟨(blk_cell BK306.out 0).trans rfl, (blk_cell BK306.out 1).trans rfl, (blk_cell BK306.out 2).trans rfl, (blk_cell BK306.out 3).trans rfl, (blk_cell BK314.out 0).trans rfl, (blk_cell BK314.out 1).trans rfl, (blk_cell BK314.out 2).trans rfl, (blk_cell BK314.out 3).trans rfl⟩ (fun hHeld => ?_); refine with_tabW tiklaw16_SegTells.tab11 tiklaw16_SegTells.bits11 (fun HT_ HW_ => ?_); (generalize w82.drew = w83 at HO293 HO298 HO303 HO311 BK284 BK306 BK314 HB hHeld ⊢); refine one_ (i := 0) (N := some 65) #[true, false, false, false, false, false, false, false, false, false, false, false, false, false, false, false, false, false, false, false, false, false, false, false, false, false, false, false, false, false, false, false, false, false, false, false, false, false, false, false, false, false, false, false] rfl rfl (one_of HT_.out (by kernel_rfl)) (by decide) (fun K hK => ?_); refine goes_ Tryd.func29 (by kernel_rfl) rfl #[] (by rfl) rfl rfl (by (try simp only [List.map_toArray, List.map_cons, List.map_nil]); first | done | rfl | (simp only [List.length_drop, List.length_take]; rfl)) ?_
     with_reducible refine (tiklaw16_first.calls kj6  true _ ?side1 (by first | exact ⟨rfl⟩ | exact hr_) A20.out).mono ?_
     (case side1 => first | (with_reducible exact HT.out) | exact tabAt HT.out (by repeat (first | (with_reducible first | exact HB.out | apply yA | apply yN | apply yD | refine yS ?_ GE284.out | refine yS ?_ GE306.out | refine yS ?_ GE314.out) | exact HB.out))); rintro e w84 ⟨rfl, hb⟩; refine ⟨_, rfl, ?_⟩; have n0_ := Aside0.mk (Kd.R_below (rx_ HO293) hb); have n1_ := Aside0.mk (Kd.R_below (rx_ HO298) hb); have n2_ := Aside0.mk (Kd.N_below (nx_ HO303) hb); have n3_ := Aside0.mk (Kd.N_below (nx_ HO311) hb); have n4_ := Aside0.mk (blk_below (g := gb284) (o := .cells #[.int .i64 a2_0, .int .u64 a2_1] 63 (0, 0)) (bx_ BK284) hb); have n5_ := Aside0.mk (blk_below (g := gb306) (o := .cells #[.int .i64 t299, .int .u64 t300, .slice Ao75 t301.length co75, .int .i64 t304] 72 (0, 0)) (bx_ BK306) hb); have n6_ := Aside0.mk (blk_below (g := gb314) (o := .cells #[.int .i64 t307, .int .u64 t308, .slice Ao81 t309.length co81, .int .i64 t312] 77 (0, 0)) (bx_ BK314) hb); have n7_ := Aside0.mk (below_step (by repeat (first | (with_reducible first | exact HB.out | apply yA | apply yN | apply yD | refine yS ?_ GE284.out | refine yS ?_ GE306.out | refine yS ?_ GE314.out) | exact HB.out)) hb); clear HO293; clear HO298; clear HO303; clear HO311; clear BK284; clear BK306; clear BK314; clear HB; have HO293 := n0_; have HO298 := n1_; have HO303 := n2_; have HO311 := n3_; have BK284 := n4_; have BK306 := n5_; have BK314 := n6_; have HB := n7_; clear n0_ n1_ n2_ n3_ n4_ n5_ n6_ n7_; (try clear hb); (try clear hb2); (try clear hk); (try clear hi); refine hK.out _ _ ⟨(blk_cell BK306.out 0).trans rfl, (blk_cell BK306.out 1).trans rfl, (blk_cell BK306.out 2).trans rfl, (blk_cell BK306.out 3).trans rfl, (blk_cell BK314.out 0).trans rfl, (blk_cell BK314.out 1).trans rfl, (blk_cell BK314.out 2).trans rfl, (blk_cell BK314.out 3).trans rfl⟩ (fun hHeld => ?_); clear hK K; refine norm_ (a' := ?_) ?_ ?_
     rotate_left
     ·show Act.put _ (some 65) _ = _
      simp only [Act.put, List.setIfInBounds_toArray, List.set_cons_zero, List.set_cons_succ, i64_w, i32_w]
      rfl
     refine pure_ (i := 1) (N := some 66) (v := ?_) (a' := ?_) #[true, true, false, false, false, false, false, false, false, false, false, false, false, false, false, false, false, false, false, false, false, false, false, false, false, false, false, false, false, false, false, false, false, false, false, false, false, false, false, false, false, false, false, false] rfl rfl (any_of HT_.out (by kernel_rfl)) (fun _ _ _ h => h) (Or.inl ⟨by rfl, ?_⟩) ?_ ?_
     rotate_left
     ·intro w'
      go_simp
      with_reducible rfl
     rotate_left
     ·simp only [Act.put, List.setIfInBounds_toArray, List.set_cons_zero, List.set_cons_succ, i64_w, i32_w]
      rfl
     refine pure_ (i := 2) (N := some 67) (v := ?_) (a' := ?_) #[true, true, true, false, false, false, false, false, false, false, false, false, false, false, false, false, false, false, false, false, false, false, false, false, false, false, false, false, false, false, false, false, false, false, false, false, false, false, false, false, false, false, false, false] rfl rfl (any_of HT_.out (by kernel_rfl)) (fun _ _ _ h => h) (Or.inl ⟨by rfl, ?_⟩) ?_ ?_
     rotate_left
     ·intro w'
      go_simp
      with_reducible rfl
     rotate_left
     ·simp only [Act.put, List.setIfInBounds_toArray, List.set_cons_zero, List.set_cons_succ, i64_w, i32_w]
      rfl
     refine pure_ (i := 4) (N := some 69) (v := ?_) (a' := ?_) #[true, true, true, false, true, false, false, false, false, false, false, false, false, false, false, false, false, false, false, false, false, false, false, false, false, false, false, false, false, false, false, false, false, false, false, false, false, false, false, false, false, false, false, false] rfl rfl (any_of HT_.out (by kernel_rfl)) (fun _ _ _ h => h) (Or.inl ⟨by rfl, ?_⟩) ?_ ?_
     rotate_left
     ·intro w'
      go_simp
      with_reducible rfl
     rotate_left
     ·simp only [Act.put, List.setIfInBounds_toArray, List.set_cons_zero, List.set_cons_succ, i64_w, i32_w]
      rfl
     refine one_ (i := 3) (N := some 68) #[true, true, true, true, true, false, false, false, false, false, false, false, false, false, false, false, false, false, false, false, false, false, false, false, false, false, false, false, false, false, false, false, false, false, false, false, false, false, false, false, false, false, false, false] rfl rfl (one_of HT_.out (by kernel_rfl)) (by decide) (fun K hK => ?_); refine goes_ Tryd.func36 (by kernel_rfl) rfl #[.int .i64 a0] (by rfl) rfl rfl (by (try simp only [List.map_toArray, List.map_cons, List.map_nil]); first | done | rfl | (simp only [List.length_drop, List.length_take]; rfl)) ?_
     with_reducible refine (seg_Name.calls a0 t316 _ ?side1 A22.out).mono ?_
     (case side1 => first | (with_reducible exact HT.out) | exact tabAt HT.out (by repeat (first | (with_reducible first | exact HB.out | apply yA | apply yN | apply yD | refine yS ?_ GE284.out | refine yS ?_ GE306.out | refine yS ?_ GE314.out) | exact HB.out))); rintro e w85 ⟨rfl, hb⟩; refine ⟨_, rfl, ?_⟩; have n0_ := Aside0.mk (Kd.R_below (rx_ HO293) hb); have n1_ := Aside0.mk (Kd.R_below (rx_ HO298) hb); have n2_ := Aside0.mk (Kd.N_below (nx_ HO303) hb); have n3_ := Aside0.mk (Kd.N_below (nx_ HO311) hb); have n4_ := Aside0.mk (blk_below (g := gb284) (o := .cells #[.int .i64 a2_0, .int .u64 a2_1] 63 (0, 0)) (bx_ BK284) hb); have n5_ := Aside0.mk (blk_below (g := gb306) (o := .cells #[.int .i64 t299, .int .u64 t300, .slice Ao75 t301.length co75, .int .i64 t304] 72 (0, 0)) (bx_ BK306) hb); have n6_ := Aside0.mk (blk_below (g := gb314) (o := .cells #[.int .i64 t307, .int .u64 t308, .slice Ao81 t309.length co81, .int .i64 t312] 77 (0, 0)) (bx_ BK314) hb); have n7_ := Aside0.mk (below_step (by repeat (first | (with_reducible first | exact HB.out | apply yA | apply yN | apply yD | refine yS ?_ GE284.out | refine yS ?_ GE306.out | refine yS ?_ GE314.out) | exact HB.out)) hb); clear HO293; clear HO298; clear HO303; clear HO311; clear BK284; clear BK306; clear BK314; clear HB; have HO293 := n0_; have HO298 := n1_; have HO303 := n2_; have HO311 := n3_; have BK284 := n4_; have BK306 := n5_; have BK314 := n6_; have HB := n7_; clear n0_ n1_ n2_ n3_ n4_ n5_ n6_ n7_; (try clear hb); (try clear hb2); (try clear hk); (try clear hi); refine hK.out _ _ ⟨(blk_cell BK306.out 0).trans rfl, (blk_cell BK306.out 1).trans rfl, (blk_cell BK306.out 2).trans rfl, (blk_cell BK306.out 3).trans rfl, (blk_cell BK314.out 0).trans rfl, (blk_cell BK314.out 1).trans rfl, (blk_cell BK314.out 2).trans rfl, (blk_cell BK314.out 3).trans rfl⟩ (fun hHeld => ?_); clear hK K; refine norm_ (a' := ?_) ?_ ?_
     rotate_left
     ·show Act.put _ (some 68) _ = _
      simp only [Act.put, List.setIfInBounds_toArray, List.set_cons_zero, List.set_cons_succ, i64_w, i32_w]
      rfl
     refine one_ (i := 5) (N := some 70) #[true, true, true, true, true, true, false, false, false, false, false, false, false, false, false, false, false, false, false, false, false, false, false, false, false, false, false, false, false, false, false, false, false, false, false, false, false, false, false, false, false, false, false, false] rfl rfl (one_of HT_.out (by kernel_rfl)) (by decide) (fun K hK => ?_); refine goes_ Tryd.func37 (by kernel_rfl) rfl #[.int .i64 a0] (by rfl) rfl rfl (by (try simp only [List.map_toArray, List.map_cons, List.map_nil]); first | done | rfl | (simp only [List.length_drop, List.length_take]; rfl)) ?_
     with_reducible refine (tikref13_Name.calls kj6 a0 t317 _ A23.out).mono ?_
     rintro e w86 ⟨rfl, hb⟩; refine ⟨_, rfl, ?_⟩; have n0_ := Aside0.mk (Kd.R_below (rx_ HO293) hb); have n1_ := Aside0.mk (Kd.R_below (rx_ HO298) hb); have n2_ := Aside0.mk (Kd.N_below (nx_ HO303) hb); have n3_ := Aside0.mk (Kd.N_below (nx_ HO311) hb); have n4_ := Aside0.mk (blk_below (g := gb284) (o := .cells #[.int .i64 a2_0, .int .u64 a2_1] 63 (0, 0)) (bx_ BK284) hb); have n5_ := Aside0.mk (blk_below (g := gb306) (o := .cells #[.int .i64 t299, .int .u64 t300, .slice Ao75 t301.length co75, .int .i64 t304] 72 (0, 0)) (bx_ BK306) hb); have n6_ := Aside0.mk (blk_below (g := gb314) (o := .cells #[.int .i64 t307, .int .u64 t308, .slice Ao81 t309.length co81, .int .i64 t312] 77 (0, 0)) (bx_ BK314) hb); have n7_ := Aside0.mk (below_step (by repeat (first | (with_reducible first | exact HB.out | apply yA | apply yN | apply yD | refine yS ?_ GE284.out | refine yS ?_ GE306.out | refine yS ?_ GE314.out) | exact HB.out)) hb); clear HO293; clear HO298; clear HO303; clear HO311; clear BK284; clear BK306; clear BK314; clear HB; have HO293 := n0_; have HO298 := n1_; have HO303 := n2_; have HO311 := n3_; have BK284 := n4_; have BK306 := n5_; have BK314 := n6_; have HB := n7_; clear n0_ n1_ n2_ n3_ n4_ n5_ n6_ n7_; (try clear hb); (try clear hb2); (try clear hk); (try clear hi); obtain ⟨Ao87, co87, eo87⟩ := Kd.R_slice HO293.out; (first | subst eo87 | (injection eo87 with f1_ f2_ f3_; have f4_ := f1_.symm; have f5_ := f3_.symm; clear f1_ f2_ f3_; subst f4_; subst f5_)); obtain ⟨Ao88, co88, eo88⟩ := Kd.R_slice HO298.out; (first | subst eo88 | (injection eo88 with f1_ f2_ f3_; have f4_ := f1_.symm; have f5_ := f3_.symm; clear f1_ f2_ f3_; subst f4_; subst f5_)); refine hK.out _ _ ⟨(blk_cell BK306.out 0).trans rfl, (blk_cell BK306.out 1).trans rfl, (blk_cell BK306.out 2).trans rfl, (blk_cell BK306.out 3).trans rfl, (blk_cell BK314.out 0).trans rfl, (blk_cell BK314.out 1).trans rfl, (blk_cell BK314.out 2).trans rfl, (blk_cell BK314.out 3).trans rfl⟩ (fun hHeld => ?_); clear hK K; refine norm_ (a' := ?_) ?_ ?_
     rotate_left
     ·show Act.put _ (some 70) _ = _
      simp only [Act.put, List.setIfInBounds_toArray, List.set_cons_zero, List.set_cons_succ, i64_w, i32_w]
      rfl
     refine pure_ (i := 6) (N := some 71) (v := ?_) (a' := ?_) #[true, true, true, true, true, true, true, false, false, false, false, false, false, false, false, false, false, false, false, false, false, false, false, false, false, false, false, false, false, false, false, false, false, false, false, false, false, false, false, false, false, false, false, false] rfl rfl (any_of HT_.out (by kernel_rfl)) (fun _ _ _ h => h) (Or.inl ⟨by rfl, ?_⟩) ?_ ?_
     rotate_left
     ·intro w'
      go_simp
      with_reducible rfl
     rotate_left
     ·simp only [Act.put, List.setIfInBounds_toArray, List.set_cons_zero, List.set_cons_succ, i64_w, i32_w]
      rfl
     refine pure_ (i := 7) (N := some 72) (v := ?_) (a' := ?_) #[true, true, true, true, true, true, true, true, false, false, false, false, false, false, false, false, false, false, false, false, false, false, false, false, false, false, false, false, false, false, false, false, false, false, false, false, false, false, false, false, false, false, false, false] rfl rfl (any_of HT_.out (by kernel_rfl)) (fun _ _ _ h => h) (Or.inl ⟨by rfl, ?_⟩) ?_ ?_
     rotate_left
     ·intro w'
      go_simp
      with_reducible rfl
     rotate_left
     ·simp only [Act.put, List.setIfInBounds_toArray, List.set_cons_zero, List.set_cons_succ, i64_w, i32_w]
      rfl
     refine pure_ (i := 8) (N := some 73) (v := ?_) (a' := ?_) #[true, true, true, true, true, true, true, true, true, false, false, false, false, false, false, false, false, false, false, false, false, false, false, false, false, false, false, false, false, false, false, false, false, false, false, false, false, false, false, false, false, false, false, false] rfl rfl (any_of HT_.out (by kernel_rfl)) (fun _ _ _ h => h) (Or.inl ⟨by rfl, ?_⟩) ?_ ?_
     rotate_left
     ·intro w'
      go_simp
      with_reducible rfl
     rotate_left
     ·simp only [Act.put, List.setIfInBounds_toArray, List.set_cons_zero, List.set_cons_succ, i64_w, i32_w]
      rfl
     refine pure_ (i := 9) (N := some 74) (v := ?_) (a' := ?_) #[true, true, true, true, true, true, true, true, true, true, false, false, false, false, false, false, false, false, false, false, false, false, false, false, false, false, false, false, false, false, false, false, false, false, false, false, false, false, false, false, false, false, false, false] rfl rfl (any_of HT_.out (by kernel_rfl)) (fun _ _ _ h => h) (Or.inl ⟨by rfl, ?_⟩) ?_ ?_
     rotate_left
     ·intro w'
      go_simp
      with_reducible rfl
     rotate_left
     ·simp only [Act.put, List.setIfInBounds_toArray, List.set_cons_zero, List.set_cons_succ, i64_w, i32_w]
      rfl
     refine pure_ (i := 10) (N := some 75) (v := ?_) (a' := ?_) #[true, true, true, true, true, true, true, true, true, true, true, false, false, false, false, false, false, false, false, false, false, false, false, false, false, false, false, false, false, false, false, false, false, false, false, false, false, false, false, false, false, false, false, false] rfl rfl (any_of HT_.out (by kernel_rfl)) (fun _ _ _ h => h) (Or.inl ⟨by rfl, ?_⟩) ?_ ?_
     rotate_left
     ·intro w'
      go_simp
      with_reducible rfl
     rotate_left
     ·simp only [Act.put, List.setIfInBounds_toArray, List.set_cons_zero, List.set_cons_succ, i64_w, i32_w]
      rfl
     refine pure_ (i := 11) (N := some 76) (v := ?_) (a' := ?_) #[true, true, true, true, true, true, true, true, true, true, true, true, false, false, false, false, false, false, false, false, false, false, false, false, false, false, false, false, false, false, false, false, false, false, false, false, false, false, false, false, false, false, false, false] rfl rfl (any_of HT_.out (by kernel_rfl)) (fun _ _ _ h => h) (Or.inl ⟨by rfl, ?_⟩) ?_ ?_
     rotate_left
     ·intro w'
      go_simp
      with_reducible rfl
     rotate_left
     ·simp only [Act.put, List.setIfInBounds_toArray, List.set_cons_zero, List.set_cons_succ, i64_w, i32_w]
      rfl
     refine pure_ (i := 12) (N := some 77) (v := ?_) (a' := ?_) #[true, true, true, true, true, true, true, true, true, true, true, true, true, false, false, false, false, false, false, false, false, false, false, false, false, false, false, false, false, false, false, false, false, false, false, false, false, false, false, false, false, false, false, false] rfl rfl (any_of HT_.out (by kernel_rfl)) (fun _ _ _ h => h) (Or.inl ⟨by rfl, ?_⟩) ?_ ?_
     rotate_left
     ·intro w'
      go_simp
      with_reducible rfl
     rotate_left
     ·simp only [Act.put, List.setIfInBounds_toArray, List.set_cons_zero, List.set_cons_succ, i64_w, i32_w]
      rfl
     refine pure_ (i := 13) (N := some 78) (v := ?_) (a' := ?_) #[true, true, true, true, true, true, true, true, true, true, true, true, true, true, false, false, false, false, false, false, false, false, false, false, false, false, false, false, false, false, false, false, false, false, false, false, false, false, false, false, false, false, false, false] rfl rfl (any_of HT_.out (by kernel_rfl)) (fun _ _ _ h => h) (Or.inl ⟨by rfl, ?_⟩) ?_ ?_
     rotate_left
     ·intro w'
      go_simp
      with_reducible rfl
     rotate_left
     ·simp only [Act.put, List.setIfInBounds_toArray, List.set_cons_zero, List.set_cons_succ, i64_w, i32_w]
      rfl
     refine pure_ (i := 14) (N := some 79) (v := ?_) (a' := ?_) #[true, true, true, true, true, true, true, true, true, true, true, true, true, true, true, false, false, false, false, false, false, false, false, false, false, false, false, false, false, false, false, false, false, false, false, false, false, false, false, false, false, false, false, false] rfl rfl (any_of HT_.out (by kernel_rfl)) (fun _ _ _ h => h) (Or.inl ⟨by rfl, ?_⟩) ?_ ?_
     rotate_left
     ·intro w'
      go_simp
      with_reducible rfl
     rotate_left
     ·simp only [Act.put, List.setIfInBounds_toArray, List.set_cons_zero, List.set_cons_succ, i64_w, i32_w]
      rfl
     refine pure_ (i := 15) (N := some 80) (v := ?_) (a' := ?_) #[true, true, true, true, true, true, true, true, true, true, true, true, true, true, true, true, false, false, false, false, false, false, false, false, false, false, false, false, false, false, false, false, false, false, false, false, false, false, false, false, false, false, false, false] rfl rfl (any_of HT_.out (by kernel_rfl)) (fun _ _ _ h => h) (Or.inl ⟨by rfl, ?_⟩) ?_ ?_
     rotate_left
     ·intro w'
      go_simp
      with_reducible rfl
     rotate_left
     ·simp only [Act.put, List.setIfInBounds_toArray, List.set_cons_zero, List.set_cons_succ, i64_w, i32_w]
      rfl
     refine pure_ (i := 16) (N := some 81) (v := ?_) (a' := ?_) #[true, true, true, true, true, true, true, true, true, true, true, true, true, true, true, true, true, false, false, false, false, false, false, false, false, false, false, false, false, false, false, false, false, false, false, false, false, false, false, false, false, false, false, false] rfl rfl (any_of HT_.out (by kernel_rfl)) (fun _ _ _ h => h) (Or.inl ⟨by rfl, ?_⟩) ?_ ?_
     rotate_left
     ·intro w'
      go_simp
      with_reducible rfl
     rotate_left
     ·simp only [Act.put, List.setIfInBounds_toArray, List.set_cons_zero, List.set_cons_succ, i64_w, i32_w]
      rfl
     refine pure_ (i := 17) (N := some 82) (v := undef) (a' := ?_) #[true, true, true, true, true, true, true, true, true, true, true, true, true, true, true, true, true, true, false, false, false, false, false, false, false, false, false, false, false, false, false, false, false, false, false, false, false, false, false, false, false, false, false, false] rfl rfl (any_of HT_.out (by kernel_rfl)) (fun _ _ _ h => h) (Or.inr ⟨by rfl, rfl⟩) ?_ ?_
     rotate_left
     ·simp only [Act.put, List.setIfInBounds_toArray, List.set_cons_zero, List.set_cons_succ, i64_w, i32_w]
      rfl
     refine pure_ (i := 18) (N := some 83) (v := undef) (a' := ?_) #[true, true, true, true, true, true, true, true, true, true, true, true, true, true, true, true, true, true, true, false, false, false, false, false, false, false, false, false, false, false, false, false, false, false, false, false, false, false, false, false, false, false, false, false] rfl rfl (any_of HT_.out (by kernel_rfl)) (fun _ _ _ h => h) (Or.inr ⟨by rfl, rfl⟩) ?_ ?_
     rotate_left
     ·simp only [Act.put, List.setIfInBounds_toArray, List.set_cons_zero, List.set_cons_succ, i64_w, i32_w]
      rfl
     refine pure_ (i := 19) (N := some 84) (v := undef) (a' := ?_) #[true, true, true, true, true, true, true, true, true, true, true, true, true, true, true, true, true, true, true, true, false, false, false, false, false, false, false, false, false, false, false, false, false, false, false, false, false, false, false, false, false, false, false, false] rfl rfl (any_of HT_.out (by kernel_rfl)) (fun _ _ _ h => h) (Or.inr ⟨by rfl, rfl⟩) ?_ ?_
     rotate_left
     ·simp only [Act.put, List.setIfInBounds_toArray, List.set_cons_zero, List.set_cons_succ, i64_w, i32_w]
      rfl
     refine pure_ (i := 20) (N := some 85) (v := ?_) (a' := ?_) #[true, true, true, true, true, true, true, true, true, true, true, true, true, true, true, true, true, true, true, true, true, false, false, false, false, false, false, false, false, false, false, false, false, false, false, false, false, false, false, false, false, false, false, false] rfl rfl (any_of HT_.out (by kernel_rfl)) (fun _ _ _ h => h) (Or.inl ⟨by rfl, ?_⟩) ?_ ?_
     rotate_left
     ·intro w'
      go_simp
      with_reducible rfl
     rotate_left
     ·simp only [Act.put, List.setIfInBounds_toArray, List.set_cons_zero, List.set_cons_succ, i64_w, i32_w]
      rfl
     refine pure_ (i := 21) (N := some 86) (v := ?_) (a' := ?_) #[true, true, true, true, true, true, true, true, true, true, true, true, true, true, true, true, true, true, true, true, true, true, false, false, false, false, false, false, false, false, false, false, false, false, false, false, false, false, false, false, false, false, false, false] rfl rfl (any_of HT_.out (by kernel_rfl)) (fun _ _ _ h => h) (Or.inl ⟨by rfl, ?_⟩) ?_ ?_
     rotate_left
     ·intro w'
      go_simp
      with_reducible rfl
     rotate_left
     ·simp only [Act.put, List.setIfInBounds_toArray, List.set_cons_zero, List.set_cons_succ, i64_w, i32_w]
      rfl
     refine pure_ (i := 22) (N := some 87) (v := ?_) (a' := ?_) #[true, true, true, true, true, true, true, true, true, true, true, true, true, true, true, true, true, true, true, true, true, true, true, false, false, false, false, false, false, false, false, false, false, false, false, false, false, false, false, false, false, false, false, false] rfl rfl (any_of HT_.out (by kernel_rfl)) (fun _ _ _ h => h) (Or.inl ⟨by rfl, ?_⟩) ?_ ?_
     rotate_left
     ·intro w'
      go_simp
      with_reducible rfl
     rotate_left
     ·simp only [Act.put, List.setIfInBounds_toArray, List.set_cons_zero, List.set_cons_succ, i64_w, i32_w]
      rfl
     refine pure_ (i := 23) (N := some 88) (v := ?_) (a' := ?_) #[true, true, true, true, true, true, true, true, true, true, true, true, true, true, true, true, true, true, true, true, true, true, true, true, false, false, false, false, false, false, false, false, false, false, false, false, false, false, false, false, false, false, false, false] rfl rfl (any_of HT_.out (by kernel_rfl)) (fun _ _ _ h => h) (Or.inl ⟨by rfl, ?_⟩) ?_ ?_
     rotate_left
     ·intro w'
      go_simp
      with_reducible rfl
     rotate_left
     ·simp only [Act.put, List.setIfInBounds_toArray, List.set_cons_zero, List.set_cons_succ, i64_w, i32_w]
      rfl
     refine pure_ (i := 24) (N := some 89) (v := ?_) (a' := ?_) #[true, true, true, true, true, true, true, true, true, true, true, true, true, true, true, true, true, true, true, true, true, true, true, true, true, false, false, false, false, false, false, false, false, false, false, false, false, false, false, false, false, false, false, false] rfl rfl (any_of HT_.out (by kernel_rfl)) (fun _ _ _ h => h) (Or.inl ⟨by rfl, ?_⟩) ?_ ?_
     rotate_left
     ·intro w'
      go_simp
      with_reducible rfl
     rotate_left
     ·simp only [Act.put, List.setIfInBounds_toArray, List.set_cons_zero, List.set_cons_succ, i64_w, i32_w]
      rfl
     refine one_ (i := 25) (N := some 90) #[true, true, true, true, true, true, true, true, true, true, true, true, true, true, true, true, true, true, true, true, true, true, true, true, true, true, false, false, false, false, false, false, false, false, false, false, false, false, false, false, false, false, false, false] rfl rfl (one_of HT_.out (by kernel_rfl)) (by decide) (fun K hK => ?_); refine goes_ Tryd.func38 (by kernel_rfl) rfl #[.slice Ao87 t291.length co87, .slice Ao88 t295.length co88] (by rfl) rfl rfl (by (try simp only [List.map_toArray, List.map_cons, List.map_nil]); first | done | rfl | (simp only [List.length_drop, List.length_take]; rfl)) ?_
     with_reducible refine (tikref_Bytes.calls _ _ t291 _ _ t295 true _ ?side1 ?side2 ?side3 ?side4 A60.out).mono ?_
     (case side1 => repeat (first | exact (Kd.R_reads' HO293.out).2.2 | (with_reducible refine Kd.C_alloc ?_ _) | (with_reducible refine Kd.C_drewN ?_ _) | (with_reducible refine Kd.C_drew ?_))); (case side2 => exact (Kd.R_reads' HO293.out).2.1); (case side3 => repeat (first | exact (Kd.R_reads' HO298.out).2.2 | (with_reducible refine Kd.C_alloc ?_ _) | (with_reducible refine Kd.C_drewN ?_ _) | (with_reducible refine Kd.C_drew ?_))); (case side4 => exact (Kd.R_reads' HO298.out).2.1); rintro e w' ⟨rfl, ⟨nd, rfl⟩⟩; refine ⟨_, rfl, ?_⟩; refine hK.out _ _ ⟨(blk_cell BK306.out 0).trans rfl, (blk_cell BK306.out 1).trans rfl, (blk_cell BK306.out 2).trans rfl, (blk_cell BK306.out 3).trans rfl, (blk_cell BK314.out 0).trans rfl, (blk_cell BK314.out 1).trans rfl, (blk_cell BK314.out 2).trans rfl, (blk_cell BK314.out 3).trans rfl⟩ (fun hHeld => ?_); clear hK K; refine norm_ (a' := ?_) ?_ ?_
     rotate_left
     ·show Act.put _ (some 90) _ = _
      simp only [Act.put, List.setIfInBounds_toArray, List.set_cons_zero, List.set_cons_succ, i64_w, i32_w]
      rfl
     refine pure_ (i := 26) (N := some 91) (v := ?_) (a' := ?_) #[true, true, true, true, true, true, true, true, true, true, true, true, true, true, true, true, true, true, true, true, true, true, true, true, true, true, true, false, false, false, false, false, false, false, false, false, false, false, false, false, false, false, false, false] rfl rfl (any_of HT_.out (by kernel_rfl)) (fun _ _ _ h => h) (Or.inl ⟨by rfl, ?_⟩) ?_ ?_
     rotate_left
     ·intro w'
      go_simp
      with_reducible rfl
     rotate_left
     ·simp only [Act.put, List.setIfInBounds_toArray, List.set_cons_zero, List.set_cons_succ, i64_w, i32_w]
      rfl
     refine pure_ (i := 27) (N := some 92) (v := ?_) (a' := ?_) #[true, true, true, true, true, true, true, true, true, true, true, true, true, true, true, true, true, true, true, true, true, true, true, true, true, true, true, true, false, false, false, false, false, false, false, false, false, false, false, false, false, false, false, false] rfl rfl (any_of HT_.out (by kernel_rfl)) (fun _ _ _ h => h) (Or.inl ⟨by rfl, ?_⟩) ?_ ?_
     rotate_left
     ·intro w'
      go_simp
      with_reducible rfl
     rotate_left
     ·simp only [Act.put, List.setIfInBounds_toArray, List.set_cons_zero, List.set_cons_succ, i64_w, i32_w]
      rfl
     refine pure_ (i := 28) (N := some 93) (v := ?_) (a' := ?_) #[true, true, true, true, true, true, true, true, true, true, true, true, true, true, true, true, true, true, true, true, true, true, true, true, true, true, true, true, true, false, false, false, false, false, false, false, false, false, false, false, false, false, false, false] rfl rfl (any_of HT_.out (by kernel_rfl)) (fun _ _ _ h => h) (Or.inl ⟨by rfl, ?_⟩) ?_ ?_
     rotate_left
     ·intro w'
      go_simp
      with_reducible rfl
     rotate_left
     ·simp only [Act.put, List.setIfInBounds_toArray, List.set_cons_zero, List.set_cons_succ, i64_w, i32_w]
      rfl
     refine pure_ (i := 29) (N := some 94) (v := ?_) (a' := ?_) #[true, true, true, true, true, true, true, true, true, true, true, true, true, true, true, true, true, true, true, true, true, true, true, true, true, true, true, true, true, true, false, false, false, false, false, false, false, false, false, false, false, false, false, false] rfl rfl (any_of HT_.out (by kernel_rfl)) (fun _ _ _ h => h) (Or.inl ⟨by rfl, ?_⟩) ?_ ?_
     rotate_left
     ·intro w'
      go_simp
      with_reducible rfl
     rotate_left
     ·simp only [Act.put, List.setIfInBounds_toArray, List.set_cons_zero, List.set_cons_succ, i64_w, i32_w]
      rfl
     refine pure_ (i := 30) (N := some 95) (v := ?_) (a' := ?_) #[true, true, true, true, true, true, true, true, true, true, true, true, true, true, true, true, true, true, true, true, true, true, true, true, true, true, true, true, true, true, true, false, false, false, false, false, false, false, false, false, false, false, false, false] rfl rfl (any_of HT_.out (by kernel_rfl)) (fun _ _ _ h => h) (Or.inl ⟨by rfl, ?_⟩) ?_ ?_
     rotate_left
     ·intro w'
      go_simp
      with_reducible rfl
     rotate_left
     ·simp only [Act.put, List.setIfInBounds_toArray, List.set_cons_zero, List.set_cons_succ, i64_w, i32_w]
      rfl
     refine pure_ (i := 31) (N := some 96) (v := ?_) (a' := ?_) #[true, true, true, true, true, true, true, true, true, true, true, true, true, true, true, true, true, true, true, true, true, true, true, true, true, true, true, true, true, true, true, true, false, false, false, false, false, false, false, false, false, false, false, false] rfl rfl (any_of HT_.out (by kernel_rfl)) (fun _ _ _ h => h) (Or.inl ⟨by rfl, ?_⟩) ?_ ?_
     rotate_left
     ·intro w'
      go_simp
      with_reducible rfl
     rotate_left
     ·simp only [Act.put, List.setIfInBounds_toArray, List.set_cons_zero, List.set_cons_succ, i64_w, i32_w]
      rfl
     refine pure_ (i := 32) (N := some 97) (v := ?_) (a' := ?_) #[true, true, true, true, true, true, true, true, true, true, true, true, true, true, true, true, true, true, true, true, true, true, true, true, true, true, true, true, true, true, true, true, true, false, false, false, false, false, false, false, false, false, false, false] rfl rfl (any_of HT_.out (by kernel_rfl)) (fun _ _ _ h => h) (Or.inl ⟨by rfl, ?_⟩) ?_ ?_
     rotate_left
     ·intro w'
      go_simp
      with_reducible rfl
     rotate_left
     ·simp only [Act.put, List.setIfInBounds_toArray, List.set_cons_zero, List.set_cons_succ, i64_w, i32_w]
      rfl
     refine take_ (i := 33) (N := some 98) (v := ?_) (a' := ?_) #[true, true, true, true, true, true, true, true, true, true, true, true, true, true, true, true, true, true, true, true, true, true, true, true, true, true, true, true, true, true, true, true, true, true, false, false, false, false, false, false, false, false, false, false] rfl rfl (take_ofW HT_.out HW_.out (by kernel_rfl)) (fun _ _ _ h => h) (Or.inl ⟨by rfl, ?_⟩) hHeld ?_ ?_
     rotate_left
     ·rintro w' ⟨s0, s1, s2, s3, s4, s5, s6, s7⟩
      go_simp
      with_reducible rfl
     rotate_left
     ·simp only [Act.put, List.setIfInBounds_toArray, List.set_cons_zero, List.set_cons_succ, i64_w, i32_w]
      rfl
     refine take_ (i := 35) (N := some 100) (v := ?_) (a' := ?_) #[true, true, true, true, true, true, true, true, true, true, true, true, true, true, true, true, true, true, true, true, true, true, true, true, true, true, true, true, true, true, true, true, true, true, false, true, false, false, false, false, false, false, false, false] rfl rfl (take_ofW HT_.out HW_.out (by kernel_rfl)) (fun _ _ _ h => h) (Or.inl ⟨by rfl, ?_⟩) hHeld ?_ ?_
     rotate_left
     ·rintro w' ⟨s0, s1, s2, s3, s4, s5, s6, s7⟩
      go_simp
      with_reducible rfl
     rotate_left
     ·simp only [Act.put, List.setIfInBounds_toArray, List.set_cons_zero, List.set_cons_succ, i64_w, i32_w]
      rfl
     refine one_ (i := 34) (N := some 99) #[true, true, true, true, true, true, true, true, true, true, true, true, true, true, true, true, true, true, true, true, true, true, true, true, true, true, true, true, true, true, true, true, true, true, true, true, false, false, false, false, false, false, false, false] rfl rfl (one_of HT_.out (by kernel_rfl)) (by decide) (fun K hK => ?_); refine goes_ Tryd.func40 (by kernel_rfl) rfl #[.agg #[.int .i64 t299, .int .u64 t300, .slice Ao75 t301.length co75, .int .i64 t304]] (by rfl) rfl rfl (by (try simp only [List.map_toArray, List.map_cons, List.map_nil]); first | done | rfl | (simp only [List.length_drop, List.length_take]; rfl)) ?_
     with_reducible refine (tiklaw16_Plain.calls kj6 t299 t300 (fun k_ => (some k_ ≠ (.slice Ao87 t291.length co87 : Value).ownBlock ∧ (some k_ ≠ (.slice Ao88 t295.length co88 : Value).ownBlock ∧ (some k_ ≠ (.slice Ao81 t309.length co81 : Value).ownBlock ∧ (k_ ≠ gb284 ∧ (k_ ≠ gb306 ∧ k_ ≠ gb314)))))) _ _ t301 t304 t327 t328 t329 t332 _ ?side1 A63.out).mono ?_
     (case side1 => exact Kd.N_V (HO303.out)); rintro e w89 ⟨v330, rfl, ho0, hb⟩; refine ⟨_, rfl, ?_⟩; have n0_ := Aside0.mk (Kd.R_below (rx_ HO293) hb); have n1_ := Aside0.mk (Kd.R_below (rx_ HO298) hb); have n2_ := Aside0.mk (Kd.N_elder' (nx_ HO303) (by first | exact Kd.N_base ho0 | exact Kd.R_base ho0 | exact Kd.S_base ho0) hb); have n3_ := Aside0.mk (Kd.N_elder' (nx_ HO311) (by first | exact Kd.N_base ho0 | exact Kd.R_base ho0 | exact Kd.S_base ho0) hb); have n4_ := Aside0.mk (Kd.N_lower (Kd.N_mono (ok' := fun k_ => some k_ ≠ (.slice Ao87 t291.length co87 : Value).ownBlock ∧ some k_ ≠ (.slice Ao88 t295.length co88 : Value).ownBlock ∧ some k_ ≠ (.slice Ao81 t309.length co81 : Value).ownBlock ∧ k_ ≠ gb284 ∧ k_ ≠ gb306 ∧ k_ ≠ gb314) ho0 (fun k_ hk_ => ⟨Or.elim hk_ (fun hs_ => hs_.1) (fun hn_ => (Kd.fresh' (Kd.R_lt (rx_ HO293)) k_ hn_)), Or.elim hk_ (fun hs_ => hs_.2.1) (fun hn_ => (Kd.fresh' (Kd.R_lt (rx_ HO298)) k_ hn_)), Or.elim hk_ (fun hs_ => hs_.2.2.1) (fun hn_ => (Kd.fresh' (Kd.N_lt (nx_ HO311)) k_ hn_)), Or.elim hk_ (fun hs_ => hs_.2.2.2.1) (fun hn_ => (Kd.freshB (g := gb284) (o := .cells #[.int .i64 a2_0, .int .u64 a2_1] 63 (0, 0)) (bx_ BK284) k_ hn_)), Or.elim hk_ (fun hs_ => hs_.2.2.2.2.1) (fun hn_ => (Kd.freshB (g := gb306) (o := .cells #[.int .i64 t299, .int .u64 t300, .slice Ao75 t301.length co75, .int .i64 t304] 72 (0, 0)) (bx_ BK306) k_ hn_)), Or.elim hk_ (fun hs_ => hs_.2.2.2.2.2) (fun hn_ => (Kd.freshB (g := gb314) (o := .cells #[.int .i64 t307, .int .u64 t308, .slice Ao81 t309.length co81, .int .i64 t312] 77 (0, 0)) (bx_ BK314) k_ hn_))⟩)) (below_size (by repeat (first | (with_reducible first | exact HB.out | apply yA | apply yN | apply yD | refine yS ?_ GE284.out | refine yS ?_ GE306.out | refine yS ?_ GE314.out) | exact HB.out)))); have n5_ := Aside0.mk (blk_below (g := gb284) (o := .cells #[.int .i64 a2_0, .int .u64 a2_1] 63 (0, 0)) (bx_ BK284) hb); have n6_ := Aside0.mk (blk_below (g := gb306) (o := .cells #[.int .i64 t299, .int .u64 t300, .slice Ao75 t301.length co75, .int .i64 t304] 72 (0, 0)) (bx_ BK306) hb); have n7_ := Aside0.mk (blk_below (g := gb314) (o := .cells #[.int .i64 t307, .int .u64 t308, .slice Ao81 t309.length co81, .int .i64 t312] 77 (0, 0)) (bx_ BK314) hb); have n8_ := Aside0.mk (below_step (by repeat (first | (with_reducible first | exact HB.out | apply yA | apply yN | apply yD | refine yS ?_ GE284.out | refine yS ?_ GE306.out | refine yS ?_ GE314.out) | exact HB.out)) hb); clear HO293; clear HO298; clear HO303; clear HO311; clear BK284; clear BK306; clear BK314; clear HB; have HO293 := n0_; have HO298 := n1_; have HO303 := n2_; have HO311 := n3_; have HO331 := n4_; have BK284 := n5_; have BK306 := n6_; have BK314 := n7_; have HB := n8_; clear n0_ n1_ n2_ n3_ n4_ n5_ n6_ n7_ n8_; (try clear hb); (try clear hb2); (try clear hk); (try clear hi); (try clear ho0); obtain ⟨Ao90, co90, eo90⟩ := Kd.N_slice HO331.out; (first | subst eo90 | (injection eo90 with f1_ f2_ f3_; have f4_ := f1_.symm; have f5_ := f3_.symm; clear f1_ f2_ f3_; subst f4_; subst f5_)); refine hK.out _ _ ⟨(blk_cell BK306.out 0).trans rfl, (blk_cell BK306.out 1).trans rfl, (blk_cell BK306.out 2).trans rfl, (blk_cell BK306.out 3).trans rfl, (blk_cell BK314.out 0).trans rfl, (blk_cell BK314.out 1).trans rfl, (blk_cell BK314.out 2).trans rfl, (blk_cell BK314.out 3).trans rfl⟩ (fun hHeld => ?_); clear hK K; refine norm_ (a' := ?_) ?_ ?_
     rotate_left
     ·show Act.put _ (some 99) _ = _
      simp only [Act.put, List.setIfInBounds_toArray, List.set_cons_zero, List.set_cons_succ, i64_w, i32_w]
      rfl
     refine one_ (i := 36) (N := some 101) #[true, true, true, true, true, true, true, true, true, true, true, true, true, true, true, true, true, true, true, true, true, true, true, true, true, true, true, true, true, true, true, true, true, true, true, true, true, false, false, false, false, false, false, false] rfl rfl (one_of HT_.out (by kernel_rfl)) (by decide) (fun K hK => ?_); refine goes_ Tryd.func39 (by kernel_rfl) rfl #[.agg #[.int .i64 t327, .int .u64 t328, .slice Ao90 t329.length co90, .int .i64 t332], .agg #[.int .i64 t307, .int .u64 t308, .slice Ao81 t309.length co81, .int .i64 t312]] (by rfl) rfl rfl (by (try simp only [List.map_toArray, List.map_cons, List.map_nil]); first | done | rfl | (simp only [List.length_drop, List.length_take]; rfl)) ?_
     with_reducible refine (tikref13_SameScan.calls kj6 t327 t328 _ _ t329 t332 t307 t308 _ _ t309 t312 true _ ?side1 ?side2 ?side3 ?side4 (by first | exact ⟨rfl⟩ | exact hr_) A64.out).mono ?_
     (case side1 => repeat (first | exact (Kd.N_reads' HO331.out).2.2 | (with_reducible refine Kd.C_alloc ?_ _) | (with_reducible refine Kd.C_drewN ?_ _) | (with_reducible refine Kd.C_drew ?_))); (case side2 => exact (Kd.N_reads' HO331.out).2.1); (case side3 => repeat (first | exact (Kd.N_reads' HO311.out).2.2 | (with_reducible refine Kd.C_alloc ?_ _) | (with_reducible refine Kd.C_drewN ?_ _) | (with_reducible refine Kd.C_drew ?_))); (case side4 => exact (Kd.N_reads' HO311.out).2.1); rintro e w91 ⟨rfl, hb⟩; refine ⟨_, rfl, ?_⟩; have n0_ := Aside0.mk (Kd.R_below (rx_ HO293) hb); have n1_ := Aside0.mk (Kd.R_below (rx_ HO298) hb); have n2_ := Aside0.mk (Kd.N_below (nx_ HO303) hb); have n3_ := Aside0.mk (Kd.N_below (nx_ HO311) hb); have n4_ := Aside0.mk (Kd.N_below (nx_ HO331) hb); have n5_ := Aside0.mk (blk_below (g := gb284) (o := .cells #[.int .i64 a2_0, .int .u64 a2_1] 63 (0, 0)) (bx_ BK284) hb); have n6_ := Aside0.mk (blk_below (g := gb306) (o := .cells #[.int .i64 t299, .int .u64 t300, .slice Ao75 t301.length co75, .int .i64 t304] 72 (0, 0)) (bx_ BK306) hb); have n7_ := Aside0.mk (blk_below (g := gb314) (o := .cells #[.int .i64 t307, .int .u64 t308, .slice Ao81 t309.length co81, .int .i64 t312] 77 (0, 0)) (bx_ BK314) hb); have n8_ := Aside0.mk (below_step (by repeat (first | (with_reducible first | exact HB.out | apply yA | apply yN | apply yD | refine yS ?_ GE284.out | refine yS ?_ GE306.out | refine yS ?_ GE314.out) | exact HB.out)) hb); clear HO293; clear HO298; clear HO303; clear HO311; clear HO331; clear BK284; clear BK306; clear BK314; clear HB; have HO293 := n0_; have HO298 := n1_; have HO303 := n2_; have HO311 := n3_; have HO331 := n4_; have BK284 := n5_; have BK306 := n6_; have BK314 := n7_; have HB := n8_; clear n0_ n1_ n2_ n3_ n4_ n5_ n6_ n7_ n8_; (try clear hb); (try clear hb2); (try clear hk); (try clear hi); refine hK.out _ _ ⟨(blk_cell BK306.out 0).trans rfl, (blk_cell BK306.out 1).trans rfl, (blk_cell BK306.out 2).trans rfl, (blk_cell BK306.out 3).trans rfl, (blk_cell BK314.out 0).trans rfl, (blk_cell BK314.out 1).trans rfl, (blk_cell BK314.out 2).trans rfl, (blk_cell BK314.out 3).trans rfl⟩ (fun hHeld => ?_); clear hK K; refine norm_ (a' := ?_) ?_ ?_
     rotate_left
     ·show Act.put _ (some 101) _ = _
      simp only [Act.put, List.setIfInBounds_toArray, List.set_cons_zero, List.set_cons_succ, i64_w, i32_w]
      rfl
     refine pure_ (i := 37) (N := some 102) (v := ?_) (a' := ?_) #[true, true, true, true, true, true, true, true, true, true, true, true, true, true, true, true, true, true, true, true, true, true, true, true, true, true, true, true, true, true, true, true, true, true, true, true, true, true, false, false, false, false, false, false] rfl rfl (any_of HT_.out (by kernel_rfl)) (fun _ _ _ h => h) (Or.inl ⟨by rfl, ?_⟩) ?_ ?_
     rotate_left
     ·intro w'
      go_simp
      with_reducible rfl
     rotate_left
     ·simp only [Act.put, List.setIfInBounds_toArray, List.set_cons_zero, List.set_cons_succ, i64_w, i32_w]
      rfl
     refine pure_ (i := 38) (N := some 103) (v := ?_) (a' := ?_) #[true, true, true, true, true, true, true, true, true, true, true, true, true, true, true, true, true, true, true, true, true, true, true, true, true, true, true, true, true, true, true, true, true, true, true, true, true, true, true, false, false, false, false, false] rfl rfl (any_of HT_.out (by kernel_rfl)) (fun _ _ _ h => h) (Or.inl ⟨by rfl, ?_⟩) ?_ ?_
     rotate_left
     ·intro w'
      go_simp
      with_reducible rfl
     rotate_left
     ·simp only [Act.put, List.setIfInBounds_toArray, List.set_cons_zero, List.set_cons_succ, i64_w, i32_w]
      rfl
     refine pure_ (i := 39) (N := some 104) (v := ?_) (a' := ?_) #[true, true, true, true, true, true, true, true, true, true, true, true, true, true, true, true, true, true, true, true, true, true, true, true, true, true, true, true, true, true, true, true, true, true, true, true, true, true, true, true, false, false, false, false] rfl rfl (any_of HT_.out (by kernel_rfl)) (fun _ _ _ h => h) (Or.inl ⟨by rfl, ?_⟩) ?_ ?_
     rotate_left
     ·intro w'
      go_simp
      with_reducible rfl
     rotate_left
     ·simp only [Act.put, List.setIfInBounds_toArray, List.set_cons_zero, List.set_cons_succ, i64_w, i32_w]
      rfl
     refine pure_ (i := 40) (N := some 105) (v := ?_) (a' := ?_) #[true, true, true, true, true, true, true, true, true, true, true, true, true, true, true, true, true, true, true, true, true, true, true, true, true, true, true, true, true, true, true, true, true, true, true, true, true, true, true, true, true, false, false, false] rfl rfl (any_of HT_.out (by kernel_rfl)) (fun _ _ _ h => h) (Or.inl ⟨by rfl, ?_⟩) ?_ ?_
     rotate_left
     ·intro w'
      go_simp
      with_reducible rfl
     rotate_left
     ·simp only [Act.put, List.setIfInBounds_toArray, List.set_cons_zero, List.set_cons_succ, i64_w, i32_w]
      rfl
     refine pure_ (i := 41) (N := some 106) (v := ?_) (a' := ?_) #[true, true, true, true, true, true, true, true, true, true, true, true, true, true, true, true, true, true, true, true, true, true, true, true, true, true, true, true, true, true, true, true, true, true, true, true, true, true, true, true, true, true, false, false] rfl rfl (any_of HT_.out (by kernel_rfl)) (fun _ _ _ h => h) (Or.inl ⟨by rfl, ?_⟩) ?_ ?_
     rotate_left
     ·intro w'
      go_simp
      with_reducible rfl
     rotate_left
     ·simp only [Act.put, List.setIfInBounds_toArray, List.set_cons_zero, List.set_cons_succ, i64_w, i32_w]
      rfl
     refine pure_ (i := 42) (N := some 107) (v := ?_) (a' := ?_) #[true, true, true, true, true, true, true, true, true, true, true, true, true, true, true, true, true, true, true, true, true, true, true, true, true, true, true, true, true, true, true, true, true, true, true, true, true, true, true, true, true, true, true, false] rfl rfl (any_of HT_.out (by kernel_rfl)) (fun _ _ _ h => h) (Or.inl ⟨by rfl, ?_⟩) ?_ ?_
     rotate_left
     ·intro w'
      go_simp
      with_reducible rfl
     rotate_left
     ·simp only [Act.put, List.setIfInBounds_toArray, List.set_cons_zero, List.set_cons_succ, i64_w, i32_w]
      rfl
     refine pure_ (i := 43) (N := some 8) (v := ?_) (a' := ?_) #[true, true, true, true, true, true, true, true, true, true, true, true, true, true, true, true, true, true, true, true, true, true, true, true, true, true, true, true, true, true, true, true, true, true, true, true, true, true, true, true, true, true, true, true] rfl rfl (any_of HT_.out (by kernel_rfl)) (fun _ _ _ h => h) (Or.inl ⟨by rfl, ?_⟩) ?_ ?_
     rotate_left
     ·intro w'
      go_simp
      with_reducible rfl
     rotate_left
     ·simp only [Act.put, List.setIfInBounds_toArray, List.set_cons_zero, List.set_cons_succ, i64_w, i32_w]
      rfl
     refine done_ (done_of HT_.out (by kernel_rfl)) ?_
     try go_wp2
     go_ret
     exact ⟨by first | rfl | (simp [errW_none, errW_some] <;> rfl) | (simp [*, errW_none, errW_some] <;> rfl), by repeat (first | (with_reducible first | exact HB.out | apply yA | apply yN | apply yD | refine yS ?_ GE284.out | refine yS ?_ GE306.out | refine yS ?_ GE314.out) | exact HB.out)⟩
    subst c26; (have H1 : (if t287 = t289 then ((tikref_Bytes.f t291 t295).bind fun t318 => (if t318 = true then (if t294 = t296 then ((tiklaw16_Plain.f kj6 t299 t300 t301 t304).bind fun bt319 => ((tikref13_SameScan.f kj6 bt319.1 bt319.2.1 bt319.2.2.1 bt319.2.2.2 t307 t308 t309 t312).bind fun t325 => (if t325 = true then (some (t305 == t313)) else (some false)))) else (some false)) else (some false))) else (some false)) = some r := by rw [if_pos rfl] at H; exact H); clear H; have H := H1; clear H1
    by_cases c27 : t287 = t289
    rotate_left
    ·rw [if_neg c27] at H
     have c27b0 : (t287 == t289) = false := beq_eq_false_iff_ne.mpr c27; have c27b1 : (t287 != t289) = true := bne_iff_ne.mpr c27; exact absurd ((Option.some.inj H).trans hr_.out) (by simp)
    (rw [if_pos c27] at H); have c27b0 : (t287 == t289) = true := beq_iff_eq.mpr c27; have c27b1 : (t287 != t289) = false := bne_eq_false_iff_eq.mpr c27; clear c27; replace H := Option.bind_eq_some_iff.mp H; obtain ⟨t318, A280, H⟩ := H; replace H : (if t318 = true then (if t294 = t296 then ((tiklaw16_Plain.f kj6 t299 t300 t301 t304).bind fun bt319 => ((tikref13_SameScan.f kj6 bt319.1 bt319.2.1 bt319.2.2.1 bt319.2.2.2 t307 t308 t309 t312).bind fun t325 => (if t325 = true then (some (t305 == t313)) else (some false)))) else (some false)) else (some false)) = some r := H; have A28 := Aside0.mk A280; clear A280
    by_cases c29 : t318 = true
    rotate_left
    ·replace c29 := Bool.eq_false_iff.mpr c29
     subst c29; (have H1 : (some false) = some r := by rw [if_neg (show ¬ (false = true) by decide)] at H; exact H); clear H; have H := H1; clear H1; exact absurd ((Option.some.inj H).trans hr_.out) (by simp)
    subst c29; (have H1 : (if t294 = t296 then ((tiklaw16_Plain.f kj6 t299 t300 t301 t304).bind fun bt319 => ((tikref13_SameScan.f kj6 bt319.1 bt319.2.1 bt319.2.2.1 bt319.2.2.2 t307 t308 t309 t312).bind fun t325 => (if t325 = true then (some (t305 == t313)) else (some false)))) else (some false)) = some r := by rw [if_pos rfl] at H; exact H); clear H; have H := H1; clear H1
    by_cases c30 : t294 = t296
    rotate_left
    ·rw [if_neg c30] at H
     have c30b0 : (t294 == t296) = false := beq_eq_false_iff_ne.mpr c30; have c30b1 : (t294 != t296) = true := bne_iff_ne.mpr c30; exact absurd ((Option.some.inj H).trans hr_.out) (by simp)
    (rw [if_pos c30] at H); have c30b0 : (t294 == t296) = true := beq_iff_eq.mpr c30; have c30b1 : (t294 != t296) = false := bne_eq_false_iff_eq.mpr c30; clear c30; replace H := Option.bind_eq_some_iff.mp H; obtain ⟨⟨t319, t320, t321, t324⟩, A310, H⟩ := H; replace H : ((tikref13_SameScan.f kj6 t319 t320 t321 t324 t307 t308 t309 t312).bind fun t325 => (if t325 = true then (some (t305 == t313)) else (some false))) = some r := H; have A31 := Aside0.mk A310; clear A310; replace H := Option.bind_eq_some_iff.mp H; obtain ⟨t325, A320, H⟩ := H; replace H : (if t325 = true then (some (t305 == t313)) else (some false)) = some r := H; have A32 := Aside0.mk A320; clear A320
    by_cases c33 : t325 = true
    rotate_left
    ·replace c33 := Bool.eq_false_iff.mpr c33
     subst c33; (have H1 : (some false) = some r := by rw [if_neg (show ¬ (false = true) by decide)] at H; exact H); clear H; have H := H1; clear H1; exact absurd ((Option.some.inj H).trans hr_.out) (by simp)
    subst c33; (have H1 : (some (t305 == t313)) = some r := by rw [if_pos rfl] at H; exact H); clear H; have H := H1; clear H1; obtain rfl := Option.some.inj H
    try go_wp2_with (first | ((with_reducible refine gate_callee (f := 30) rfl ?_); refine goesL_ (some 34) rfl rfl Tryd.func30 (by kernel_rfl) rfl #[.string a1] rfl (by (try simp only [List.map_toArray, List.map_cons, List.map_nil]); first | done | rfl | (simp only [List.length_drop, List.length_take]; rfl)) ?_; (with_reducible refine (seg_Number.calls kj6 a1 t287 true _ ?side1 A14.out).mono ?_); (case side1 => first | (with_reducible exact HT.out) | exact tabAt HT.out (by repeat (first | (with_reducible first | exact HB.out | apply yA | apply yN | apply yD | refine yS ?_ GE284.out) | exact HB.out))); rintro e w34 ⟨rfl, hb⟩; refine ⟨_, rfl, ?_⟩; have n0_ := Aside0.mk (blk_below (g := gb284) (o := .cells #[.int .i64 a2_0, .int .u64 a2_1] 63 (0, 0)) (bx_ BK284) hb); have n1_ := Aside0.mk (below_step (by repeat (first | (with_reducible first | exact HB.out | apply yA | apply yN | apply yD | refine yS ?_ GE284.out) | exact HB.out)) hb); clear BK284; clear HB; have BK284 := n0_; have HB := n1_; clear n0_ n1_; (try clear hb); (try clear hb2); (try clear hk); (try clear hi)) | ((with_reducible refine gate_callee (f := 31) rfl ?_); refine goesL_ (some 39) rfl rfl Tryd.func31 (by kernel_rfl) rfl #[.string a1] rfl (by (try simp only [List.map_toArray, List.map_cons, List.map_nil]); first | done | rfl | (simp only [List.length_drop, List.length_take]; rfl)) ?_; (with_reducible refine (tikref13_Number.calls kj6 a1 t289 t290 _ A15.out).mono ?_); rintro e w' ⟨rfl, ⟨nd, rfl⟩⟩; refine ⟨_, rfl, ?_⟩; (try (rw [drewN_self w34]; generalize hq_ : World.drewN w34 _ = w34; have n0_ : Aside0 (w34.heap[gb284]? = some (.cells #[.int .i64 a2_0, .int .u64 a2_1] 63 (0, 0))) := ⟨by rw [← hq_]; exact (bx_ BK284)⟩; have n1_ : Aside0 (Below w.heap.size w w34) := ⟨by rw [← hq_]; exact (by repeat (first | (with_reducible first | exact HB.out | apply yA | apply yN | apply yD | refine yS ?_ GE284.out) | exact HB.out))⟩; clear BK284 HB hq_; have BK284 := n0_; have HB := n1_; clear n0_ n1_)); have hcz35_0 : w34.cell? ⟨gb284, 0, none⟩ = some (.int .i64 a2_0) := (blk_cell BK284.out 0).trans rfl; have hcz35_1 : w34.cell? ⟨gb284, 1, none⟩ = some (.int .u64 a2_1) := (blk_cell BK284.out 1).trans rfl; have hfz35_0 := blk_frozen BK284.out 0; have hfz35_1 := blk_frozen BK284.out 1) | ((with_reducible refine gate_callee (f := 32) rfl ?_); refine goesL_ (some 44) rfl rfl Tryd.func32 (by kernel_rfl) rfl #[.agg #[.int .i64 a2_0, .int .u64 a2_1]] rfl (by (try simp only [List.map_toArray, List.map_cons, List.map_nil]); first | done | rfl | (simp only [List.length_drop, List.length_take]; rfl)) ?_; (with_reducible refine (seg_Header.calls kj6 a2_0 a2_1 t291 t294 _ A16.out).mono ?_); rintro e w36 ⟨v292, rfl, ho0, hb⟩; refine ⟨_, rfl, ?_⟩; have n0_ := Aside0.mk (Kd.R_lower ho0 (below_size (by repeat (first | (with_reducible first | exact HB.out | apply yA | apply yN | apply yD | refine yS ?_ GE284.out) | exact HB.out)))); have n1_ := Aside0.mk (blk_below (g := gb284) (o := .cells #[.int .i64 a2_0, .int .u64 a2_1] 63 (0, 0)) (bx_ BK284) hb); have n2_ := Aside0.mk (below_step (by repeat (first | (with_reducible first | exact HB.out | apply yA | apply yN | apply yD | refine yS ?_ GE284.out) | exact HB.out)) hb); clear BK284; clear HB; have HO293 := n0_; have BK284 := n1_; have HB := n2_; clear n0_ n1_ n2_; (try clear hb); (try clear hb2); (try clear hk); (try clear hi); (try clear ho0); have hcz37_0 : w36.cell? ⟨gb284, 0, none⟩ = some (.int .i64 a2_0) := (blk_cell BK284.out 0).trans rfl; have hcz37_1 : w36.cell? ⟨gb284, 1, none⟩ = some (.int .u64 a2_1) := (blk_cell BK284.out 1).trans rfl; have hfz37_0 := blk_frozen BK284.out 0; have hfz37_1 := blk_frozen BK284.out 1) | ((with_reducible refine gate_callee (f := 33) rfl ?_); refine goesL_ (some 52) rfl rfl Tryd.func33 (by kernel_rfl) rfl #[.int .i64 a2_0, .int .u64 a2_1] rfl (by (try simp only [List.map_toArray, List.map_cons, List.map_nil]); first | done | rfl | (simp only [List.length_drop, List.length_take]; rfl)) ?_; (with_reducible refine (tikref13_Header.calls kj6 a2_0 a2_1 t295 t296 _ A17.out).mono ?_); rintro e w38 ⟨v297, rfl, ho0, hb⟩; refine ⟨_, rfl, ?_⟩; have n0_ := Aside0.mk (Kd.R_elder' (rx_ HO293) (by first | exact Kd.R_base ho0 | exact Kd.S_base ho0) hb); have n1_ := Aside0.mk (Kd.R_lower (Kd.R_new' ho0 (Kd.R_lt (rx_ HO293))) (below_size (by repeat (first | (with_reducible first | exact HB.out | apply yA | apply yN | apply yD | refine yS ?_ GE284.out) | exact HB.out)))); have n2_ := Aside0.mk (blk_below (g := gb284) (o := .cells #[.int .i64 a2_0, .int .u64 a2_1] 63 (0, 0)) (bx_ BK284) hb); have n3_ := Aside0.mk (below_step (by repeat (first | (with_reducible first | exact HB.out | apply yA | apply yN | apply yD | refine yS ?_ GE284.out) | exact HB.out)) hb); clear HO293; clear BK284; clear HB; have HO293 := n0_; have HO298 := n1_; have BK284 := n2_; have HB := n3_; clear n0_ n1_ n2_ n3_; (try clear hb); (try clear hb2); (try clear hk); (try clear hi); (try clear ho0)) | ((with_reducible refine gate_callee (f := 34) rfl ?_); refine goesL_ (some 57) rfl rfl Tryd.func34 (by kernel_rfl) rfl #[.slice A3 l3.length c3] rfl (by (try simp only [List.map_toArray, List.map_cons, List.map_nil]); first | done | rfl | (simp only [List.length_drop, List.length_take]; rfl)) ?_; (with_reducible refine (seg_Read.calls kj6 _ _ l3 t299 t300 t301 t304 t305 _ ?side1 ?side2 A18.out).mono ?_); (case side1 => repeat (first | exact (Kd.C_below HR3.out HB.out) | (with_reducible refine Kd.C_alloc ?_ _) | (with_reducible refine Kd.C_drewN ?_ _) | (with_reducible refine Kd.C_drew ?_))); (case side2 => exact HC3.out); rintro e w39 ⟨v302, rfl, ho0, hb⟩; refine ⟨_, rfl, ?_⟩; have n0_ := Aside0.mk (Kd.R_below (rx_ HO293) hb); have n1_ := Aside0.mk (Kd.R_below (rx_ HO298) hb); have n2_ := Aside0.mk (Kd.N_lower (Kd.N_mono (ok' := fun k_ => some k_ ≠ (v292 : Value).ownBlock ∧ some k_ ≠ (v297 : Value).ownBlock ∧ k_ ≠ gb284) (Kd.S_N (Kd.S_bound ho0)) (fun k_ hk_ => ⟨(Kd.fresh' (Kd.R_lt (rx_ HO293)) k_ hk_.2.1), (Kd.fresh' (Kd.R_lt (rx_ HO298)) k_ hk_.2.1), (Kd.freshB (g := gb284) (o := .cells #[.int .i64 a2_0, .int .u64 a2_1] 63 (0, 0)) (bx_ BK284) k_ hk_.2.1)⟩)) (below_size (by repeat (first | (with_reducible first | exact HB.out | apply yA | apply yN | apply yD | refine yS ?_ GE284.out) | exact HB.out)))); have n3_ := Aside0.mk (blk_below (g := gb284) (o := .cells #[.int .i64 a2_0, .int .u64 a2_1] 63 (0, 0)) (bx_ BK284) hb); have n4_ := Aside0.mk (below_step (by repeat (first | (with_reducible first | exact HB.out | apply yA | apply yN | apply yD | refine yS ?_ GE284.out) | exact HB.out)) hb); clear HO293; clear HO298; clear BK284; clear HB; have HO293 := n0_; have HO298 := n1_; have HO303 := n2_; have BK284 := n3_; have HB := n4_; clear n0_ n1_ n2_ n3_ n4_; (try clear hb); (try clear hb2); (try clear hk); (try clear hi); (try clear ho0)) | ((with_reducible refine gate_dst (N := 17) rfl ?_); (try (refine gate_guard (by rfl) ?_; dsimp only)); refine box_event ?hg (N := 17) ?hd (cs := #[.int .i64 0, .int .u64 0, .slice none 0 0, .int .i64 0]) (t := 72) ?hr ?_; (case hd => rfl); (case hg => rfl); (case hr => first | (go_simp; done) | (go_simp; rfl)); intro gb306 hg w40 hbox hb; have n0_ := Aside0.mk (Kd.R_below (rx_ HO293) hb); have n1_ := Aside0.mk (Kd.R_below (rx_ HO298) hb); have n2_ := Aside0.mk (Kd.N_below (Kd.N_elderB (nx_ HO303) gb306 (Nat.le_of_eq hg.symm)) hb); have n3_ := Aside0.mk (blk_below (g := gb284) (o := .cells #[.int .i64 a2_0, .int .u64 a2_1] 63 (0, 0)) (bx_ BK284) hb); have n4_ := Aside0.mk (below_step (by repeat (first | (with_reducible first | exact HB.out | apply yA | apply yN | apply yD | refine yS ?_ GE284.out) | exact HB.out)) hb); have n5_ := Aside0.mk (hbox); have n6_ := Aside0.mk ((by rw [hg]; exact (below_size (by repeat (first | (with_reducible first | exact HB.out | apply yA | apply yN | apply yD | refine yS ?_ GE284.out) | exact HB.out))) : w.heap.size ≤ gb306)); have n7_ := Aside0.mk ((by rw [hg]; exact (below_size (by repeat (first | (with_reducible first | exact HB.out | apply yA | apply yN | apply yD | refine yS ?_ GE284.out) | exact HB.out))) : w.heap.size ≤ gb306)); have n8_ := Aside0.mk ((by rw [hg]; exact Nat.ne_of_lt (blk_lt (g := gb284) (o := .cells #[.int .i64 a2_0, .int .u64 a2_1] 63 (0, 0)) (bx_ BK284)) : gb284 ≠ gb306)); have n9_ := Aside0.mk ((by rw [hg]; exact Nat.ne_of_gt (blk_lt (g := gb284) (o := .cells #[.int .i64 a2_0, .int .u64 a2_1] 63 (0, 0)) (bx_ BK284)) : gb306 ≠ gb284)); clear HO293; clear HO298; clear HO303; clear BK284; clear HB; have HO293 := n0_; have HO298 := n1_; have HO303 := n2_; have BK284 := n3_; have HB := n4_; have BK306 := n5_; have GW306 := n6_; have GE306 := n7_; have NB284_306 := n8_; have NB306_284 := n9_; clear n0_ n1_ n2_ n3_ n4_ n5_ n6_ n7_ n8_ n9_; clear hb hbox hg; have hnb41 := NB306_284.out; have hnc41 := NB284_306.out; have hcz42_0 : w40.cell? ⟨gb306, 0, none⟩ = some (.int .i64 0) := (blk_cell BK306.out 0).trans rfl; have hcz42_1 : w40.cell? ⟨gb306, 1, none⟩ = some (.int .u64 0) := (blk_cell BK306.out 1).trans rfl; have hcz42_2 : w40.cell? ⟨gb306, 2, none⟩ = some (.slice none 0 0) := (blk_cell BK306.out 2).trans rfl; have hcz42_3 : w40.cell? ⟨gb306, 3, none⟩ = some (.int .i64 0) := (blk_cell BK306.out 3).trans rfl; have hfz42_0 := blk_frozen BK306.out 0; have hfz42_1 := blk_frozen BK306.out 1; have hfz42_2 := blk_frozen BK306.out 2; have hfz42_3 := blk_frozen BK306.out 3; obtain ⟨Ao43, co43, eo43⟩ := Kd.N_slice HO303.out; subst eo43) | ((with_reducible refine gate_callee (f := 35) rfl ?_); refine goesL_ (some 62) rfl rfl Tryd.func35 (by kernel_rfl) rfl #[.slice A3 l3.length c3] rfl (by (try simp only [List.map_toArray, List.map_cons, List.map_nil]); first | done | rfl | (simp only [List.length_drop, List.length_take]; rfl)) ?_; (with_reducible refine (tikref13_ReadSeg.calls kj6 _ _ l3 t307 t308 t309 t312 t313 _ ?side1 ?side2 A19.out).mono ?_); (case side1 => exact Kd.C_below HR3.out (by repeat (first | (with_reducible first | exact HB.out | apply yA | apply yN | apply yD | refine yS ?_ GE284.out | refine yS ?_ GE306.out) | exact HB.out))); (case side2 => exact HC3.out); rintro e w44 ⟨v310, rfl, ho0, hb⟩; refine ⟨_, rfl, ?_⟩; have n0_ := Aside0.mk (Kd.R_below (by (with_reducible repeat first | apply rA_ | apply rN_ | apply rD_); exact (Kd.R_mono (Kd.R_far (p := ⟨gb306, 3, none⟩) (Kd.R_far (p := ⟨gb306, 2, none⟩) (Kd.R_far (p := ⟨gb306, 1, none⟩) (Kd.R_far (p := ⟨gb306, 0, none⟩) (Kd.R_types HO293.out BK306.out (by decide)) (fun _ hk => hk.2) (.int .i64 t299)) (fun _ hk => hk.2) (.int .u64 t300)) (fun _ hk => hk.2) (.slice Ao43 t301.length co43)) (fun _ hk => hk.2) (.int .i64 t304)) (fun _ h_ => h_.1))) hb); have n1_ := Aside0.mk (Kd.R_below (by (with_reducible repeat first | apply rA_ | apply rN_ | apply rD_); exact (Kd.R_mono (Kd.R_far (p := ⟨gb306, 3, none⟩) (Kd.R_far (p := ⟨gb306, 2, none⟩) (Kd.R_far (p := ⟨gb306, 1, none⟩) (Kd.R_far (p := ⟨gb306, 0, none⟩) (Kd.R_types HO298.out BK306.out (by decide)) (fun _ hk => hk.2) (.int .i64 t299)) (fun _ hk => hk.2) (.int .u64 t300)) (fun _ hk => hk.2) (.slice Ao43 t301.length co43)) (fun _ hk => hk.2) (.int .i64 t304)) (fun _ h_ => h_.1))) hb); have n2_ := Aside0.mk (Kd.N_elder' (by (with_reducible repeat first | apply nA_ | apply nN_ | apply nD_); exact (Kd.N_mono (Kd.N_far (p := ⟨gb306, 3, none⟩) (Kd.N_far (p := ⟨gb306, 2, none⟩) (Kd.N_far (p := ⟨gb306, 1, none⟩) (Kd.N_far (p := ⟨gb306, 0, none⟩) (Kd.N_mono HO303.out (fun k_ hk => (⟨hk, hk.2⟩ : _ ∧ k_ ≠ gb306))) (fun _ hk => hk.2) (.int .i64 t299)) (fun _ hk => hk.2) (.int .u64 t300)) (fun _ hk => hk.2) (.slice Ao43 t301.length co43)) (fun _ hk => hk.2) (.int .i64 t304)) (fun _ h_ => h_.1))) (by first | exact Kd.N_base ho0 | exact Kd.R_base ho0 | exact Kd.S_base ho0) hb); have n3_ := Aside0.mk (Kd.N_lower (Kd.N_mono (ok' := fun k_ => some k_ ≠ (v292 : Value).ownBlock ∧ some k_ ≠ (v297 : Value).ownBlock ∧ some k_ ≠ (.slice Ao43 t301.length co43 : Value).ownBlock ∧ k_ ≠ gb284 ∧ k_ ≠ gb306) (Kd.S_N (Kd.S_bound ho0)) (fun k_ hk_ => ⟨(Kd.fresh' (Kd.R_lt (by (with_reducible repeat first | apply rA_ | apply rN_ | apply rD_); exact (Kd.R_mono (Kd.R_far (p := ⟨gb306, 3, none⟩) (Kd.R_far (p := ⟨gb306, 2, none⟩) (Kd.R_far (p := ⟨gb306, 1, none⟩) (Kd.R_far (p := ⟨gb306, 0, none⟩) (Kd.R_types HO293.out BK306.out (by decide)) (fun _ hk => hk.2) (.int .i64 t299)) (fun _ hk => hk.2) (.int .u64 t300)) (fun _ hk => hk.2) (.slice Ao43 t301.length co43)) (fun _ hk => hk.2) (.int .i64 t304)) (fun _ h_ => h_.1)))) k_ hk_.2.1), (Kd.fresh' (Kd.R_lt (by (with_reducible repeat first | apply rA_ | apply rN_ | apply rD_); exact (Kd.R_mono (Kd.R_far (p := ⟨gb306, 3, none⟩) (Kd.R_far (p := ⟨gb306, 2, none⟩) (Kd.R_far (p := ⟨gb306, 1, none⟩) (Kd.R_far (p := ⟨gb306, 0, none⟩) (Kd.R_types HO298.out BK306.out (by decide)) (fun _ hk => hk.2) (.int .i64 t299)) (fun _ hk => hk.2) (.int .u64 t300)) (fun _ hk => hk.2) (.slice Ao43 t301.length co43)) (fun _ hk => hk.2) (.int .i64 t304)) (fun _ h_ => h_.1)))) k_ hk_.2.1), (Kd.fresh' (Kd.N_lt (by (with_reducible repeat first | apply nA_ | apply nN_ | apply nD_); exact (Kd.N_mono (Kd.N_far (p := ⟨gb306, 3, none⟩) (Kd.N_far (p := ⟨gb306, 2, none⟩) (Kd.N_far (p := ⟨gb306, 1, none⟩) (Kd.N_far (p := ⟨gb306, 0, none⟩) (Kd.N_mono HO303.out (fun k_ hk => (⟨hk, hk.2⟩ : _ ∧ k_ ≠ gb306))) (fun _ hk => hk.2) (.int .i64 t299)) (fun _ hk => hk.2) (.int .u64 t300)) (fun _ hk => hk.2) (.slice Ao43 t301.length co43)) (fun _ hk => hk.2) (.int .i64 t304)) (fun _ h_ => h_.1)))) k_ hk_.2.1), (Kd.freshB (g := gb284) (o := .cells #[.int .i64 a2_0, .int .u64 a2_1] 63 (0, 0)) (by (with_reducible repeat first | apply zN | apply zD | apply zA); refine blk_far ?_ NB284_306.out _; (with_reducible repeat first | apply zN | apply zD | apply zA); refine blk_far ?_ NB284_306.out _; (with_reducible repeat first | apply zN | apply zD | apply zA); refine blk_far ?_ NB284_306.out _; (with_reducible repeat first | apply zN | apply zD | apply zA); refine blk_far ?_ NB284_306.out _; (with_reducible repeat first | apply zN | apply zD | apply zA); exact BK284.out) k_ hk_.2.1), (Kd.freshB (g := gb306) (o := .cells #[.int .i64 t299, .int .u64 t300, .slice Ao43 t301.length co43, .int .i64 t304] 72 (0, 0)) (by (with_reducible repeat first | apply zN | apply zD | apply zA); refine blk_put (cs := #[.int .i64 t299, .int .u64 t300, .slice Ao43 t301.length co43, .int .i64 0]) ?_ 3 _ rfl; (with_reducible repeat first | apply zN | apply zD | apply zA); refine blk_put (cs := #[.int .i64 t299, .int .u64 t300, .slice none 0 0, .int .i64 0]) ?_ 2 _ rfl; (with_reducible repeat first | apply zN | apply zD | apply zA); refine blk_put (cs := #[.int .i64 t299, .int .u64 0, .slice none 0 0, .int .i64 0]) ?_ 1 _ rfl; (with_reducible repeat first | apply zN | apply zD | apply zA); refine blk_put (cs := #[.int .i64 0, .int .u64 0, .slice none 0 0, .int .i64 0]) ?_ 0 _ rfl; (with_reducible repeat first | apply zN | apply zD | apply zA); exact BK306.out) k_ hk_.2.1)⟩)) (below_size (by repeat (first | (with_reducible first | exact HB.out | apply yA | apply yN | apply yD | refine yS ?_ GE284.out | refine yS ?_ GE306.out) | exact HB.out)))); have n4_ := Aside0.mk (blk_below (g := gb284) (o := .cells #[.int .i64 a2_0, .int .u64 a2_1] 63 (0, 0)) (by (with_reducible repeat first | apply zN | apply zD | apply zA); refine blk_far ?_ NB284_306.out _; (with_reducible repeat first | apply zN | apply zD | apply zA); refine blk_far ?_ NB284_306.out _; (with_reducible repeat first | apply zN | apply zD | apply zA); refine blk_far ?_ NB284_306.out _; (with_reducible repeat first | apply zN | apply zD | apply zA); refine blk_far ?_ NB284_306.out _; (with_reducible repeat first | apply zN | apply zD | apply zA); exact BK284.out) hb); have n5_ := Aside0.mk (blk_below (g := gb306) (o := .cells #[.int .i64 t299, .int .u64 t300, .slice Ao43 t301.length co43, .int .i64 t304] 72 (0, 0)) (by (with_reducible repeat first | apply zN | apply zD | apply zA); refine blk_put (cs := #[.int .i64 t299, .int .u64 t300, .slice Ao43 t301.length co43, .int .i64 0]) ?_ 3 _ rfl; (with_reducible repeat first | apply zN | apply zD | apply zA); refine blk_put (cs := #[.int .i64 t299, .int .u64 t300, .slice none 0 0, .int .i64 0]) ?_ 2 _ rfl; (with_reducible repeat first | apply zN | apply zD | apply zA); refine blk_put (cs := #[.int .i64 t299, .int .u64 0, .slice none 0 0, .int .i64 0]) ?_ 1 _ rfl; (with_reducible repeat first | apply zN | apply zD | apply zA); refine blk_put (cs := #[.int .i64 0, .int .u64 0, .slice none 0 0, .int .i64 0]) ?_ 0 _ rfl; (with_reducible repeat first | apply zN | apply zD | apply zA); exact BK306.out) hb); have n6_ := Aside0.mk (below_step (by repeat (first | (with_reducible first | exact HB.out | apply yA | apply yN | apply yD | refine yS ?_ GE284.out | refine yS ?_ GE306.out) | exact HB.out)) hb); clear HO293; clear HO298; clear HO303; clear BK284; clear BK306; clear HB; have HO293 := n0_; have HO298 := n1_; have HO303 := n2_; have HO311 := n3_; have BK284 := n4_; have BK306 := n5_; have HB := n6_; clear n0_ n1_ n2_ n3_ n4_ n5_ n6_; (try clear hb); (try clear hb2); (try clear hk); (try clear hi); (try clear ho0)) | ((with_reducible refine gate_dst (N := 19) rfl ?_); (try (refine gate_guard (by rfl) ?_; dsimp only)); refine box_event ?hg (N := 19) ?hd (cs := #[.int .i64 0, .int .u64 0, .slice none 0 0, .int .i64 0]) (t := 77) ?hr ?_; (case hd => rfl); (case hg => rfl); (case hr => first | (go_simp; done) | (go_simp; rfl)); intro gb314 hg w45 hbox hb; have n0_ := Aside0.mk (Kd.R_below (rx_ HO293) hb); have n1_ := Aside0.mk (Kd.R_below (rx_ HO298) hb); have n2_ := Aside0.mk (Kd.N_below (Kd.N_elderB (nx_ HO303) gb314 (Nat.le_of_eq hg.symm)) hb); have n3_ := Aside0.mk (Kd.N_below (Kd.N_elderB (nx_ HO311) gb314 (Nat.le_of_eq hg.symm)) hb); have n4_ := Aside0.mk (blk_below (g := gb284) (o := .cells #[.int .i64 a2_0, .int .u64 a2_1] 63 (0, 0)) (bx_ BK284) hb); have n5_ := Aside0.mk (blk_below (g := gb306) (o := .cells #[.int .i64 t299, .int .u64 t300, .slice Ao43 t301.length co43, .int .i64 t304] 72 (0, 0)) (bx_ BK306) hb); have n6_ := Aside0.mk (below_step (by repeat (first | (with_reducible first | exact HB.out | apply yA | apply yN | apply yD | refine yS ?_ GE284.out | refine yS ?_ GE306.out) | exact HB.out)) hb); have n7_ := Aside0.mk (hbox); have n8_ := Aside0.mk ((by rw [hg]; exact (below_size (by repeat (first | (with_reducible first | exact HB.out | apply yA | apply yN | apply yD | refine yS ?_ GE284.out | refine yS ?_ GE306.out) | exact HB.out))) : w.heap.size ≤ gb314)); have n9_ := Aside0.mk ((by rw [hg]; exact (below_size (by repeat (first | (with_reducible first | exact HB.out | apply yA | apply yN | apply yD | refine yS ?_ GE284.out | refine yS ?_ GE306.out) | exact HB.out))) : w.heap.size ≤ gb314)); have n10_ := Aside0.mk ((by rw [hg]; exact Nat.ne_of_lt (blk_lt (g := gb284) (o := .cells #[.int .i64 a2_0, .int .u64 a2_1] 63 (0, 0)) (bx_ BK284)) : gb284 ≠ gb314)); have n11_ := Aside0.mk ((by rw [hg]; exact Nat.ne_of_gt (blk_lt (g := gb284) (o := .cells #[.int .i64 a2_0, .int .u64 a2_1] 63 (0, 0)) (bx_ BK284)) : gb314 ≠ gb284)); have n12_ := Aside0.mk ((by rw [hg]; exact Nat.ne_of_lt (blk_lt (g := gb306) (o := .cells #[.int .i64 t299, .int .u64 t300, .slice Ao43 t301.length co43, .int .i64 t304] 72 (0, 0)) (bx_ BK306)) : gb306 ≠ gb314)); have n13_ := Aside0.mk ((by rw [hg]; exact Nat.ne_of_gt (blk_lt (g := gb306) (o := .cells #[.int .i64 t299, .int .u64 t300, .slice Ao43 t301.length co43, .int .i64 t304] 72 (0, 0)) (bx_ BK306)) : gb314 ≠ gb306)); clear HO293; clear HO298; clear HO303; clear HO311; clear BK284; clear BK306; clear HB; have HO293 := n0_; have HO298 := n1_; have HO303 := n2_; have HO311 := n3_; have BK284 := n4_; have BK306 := n5_; have HB := n6_; have BK314 := n7_; have GW314 := n8_; have GE314 := n9_; have NB284_314 := n10_; have NB314_284 := n11_; have NB306_314 := n12_; have NB314_306 := n13_; clear n0_ n1_ n2_ n3_ n4_ n5_ n6_ n7_ n8_ n9_ n10_ n11_ n12_ n13_; clear hb hbox hg; have hnb46 := NB314_284.out; have hnc46 := NB284_314.out; have hnb47 := NB314_306.out; have hnc47 := NB306_314.out; have hcz48_0 : w45.cell? ⟨gb314, 0, none⟩ = some (.int .i64 0) := (blk_cell BK314.out 0).trans rfl; have hcz48_1 : w45.cell? ⟨gb314, 1, none⟩ = some (.int .u64 0) := (blk_cell BK314.out 1).trans rfl; have hcz48_2 : w45.cell? ⟨gb314, 2, none⟩ = some (.slice none 0 0) := (blk_cell BK314.out 2).trans rfl; have hcz48_3 : w45.cell? ⟨gb314, 3, none⟩ = some (.int .i64 0) := (blk_cell BK314.out 3).trans rfl; have hfz48_0 := blk_frozen BK314.out 0; have hfz48_1 := blk_frozen BK314.out 1; have hfz48_2 := blk_frozen BK314.out 2; have hfz48_3 := blk_frozen BK314.out 3; obtain ⟨Ao49, co49, eo49⟩ := Kd.N_slice HO311.out; subst eo49))
    have n0_ : Aside0 (Kd.R (Kd.int .u8) 5 ((((w45.setCell ⟨gb314, 0, none⟩ (.int .i64 t307)).setCell ⟨gb314, 1, none⟩ (.int .u64 t308)).setCell ⟨gb314, 2, none⟩ (.slice Ao49 t309.length co49)).setCell ⟨gb314, 3, none⟩ (.int .i64 t312)) w.heap.size (fun k_ => some k_ ≠ (v297 : Value).ownBlock) v292 t291) := ⟨by (with_reducible repeat first | apply rA_ | apply rN_ | apply rD_); exact Kd.R_mono (Kd.R_far (p := ⟨gb314, 3, none⟩) (Kd.R_far (p := ⟨gb314, 2, none⟩) (Kd.R_far (p := ⟨gb314, 1, none⟩) (Kd.R_far (p := ⟨gb314, 0, none⟩) (Kd.R_types HO293.out BK314.out (by decide)) (fun _ hk => hk.2) (.int .i64 t307)) (fun _ hk => hk.2) (.int .u64 t308)) (fun _ hk => hk.2) (.slice Ao49 t309.length co49)) (fun _ hk => hk.2) (.int .i64 t312)) (fun _ hk => hk.1.2)⟩; have n1_ : Aside0 (Kd.R (Kd.int .u8) 5 ((((w45.setCell ⟨gb314, 0, none⟩ (.int .i64 t307)).setCell ⟨gb314, 1, none⟩ (.int .u64 t308)).setCell ⟨gb314, 2, none⟩ (.slice Ao49 t309.length co49)).setCell ⟨gb314, 3, none⟩ (.int .i64 t312)) w.heap.size (fun k_ => some k_ ≠ (v292 : Value).ownBlock) v297 t295) := ⟨by (with_reducible repeat first | apply rA_ | apply rN_ | apply rD_); exact Kd.R_mono (Kd.R_far (p := ⟨gb314, 3, none⟩) (Kd.R_far (p := ⟨gb314, 2, none⟩) (Kd.R_far (p := ⟨gb314, 1, none⟩) (Kd.R_far (p := ⟨gb314, 0, none⟩) (Kd.R_types HO298.out BK314.out (by decide)) (fun _ hk => hk.2) (.int .i64 t307)) (fun _ hk => hk.2) (.int .u64 t308)) (fun _ hk => hk.2) (.slice Ao49 t309.length co49)) (fun _ hk => hk.2) (.int .i64 t312)) (fun _ hk => hk.1.2)⟩; have n2_ : Aside0 (Kd.N k93 93 ((((w45.setCell ⟨gb314, 0, none⟩ (.int .i64 t307)).setCell ⟨gb314, 1, none⟩ (.int .u64 t308)).setCell ⟨gb314, 2, none⟩ (.slice Ao49 t309.length co49)).setCell ⟨gb314, 3, none⟩ (.int .i64 t312)) w.heap.size (fun k_ => some k_ ≠ (v292 : Value).ownBlock ∧ some k_ ≠ (v297 : Value).ownBlock ∧ some k_ ≠ (.slice Ao49 t309.length co49 : Value).ownBlock ∧ k_ ≠ gb284 ∧ k_ ≠ gb306 ∧ k_ ≠ gb314) (.slice Ao43 t301.length co43) t301) := ⟨by (with_reducible repeat first | apply nA_ | apply nN_ | apply nD_); exact Kd.N_mono (Kd.N_far (p := ⟨gb314, 3, none⟩) (Kd.N_far (p := ⟨gb314, 2, none⟩) (Kd.N_far (p := ⟨gb314, 1, none⟩) (Kd.N_far (p := ⟨gb314, 0, none⟩) (Kd.N_mono HO303.out (fun k_ hk => (⟨hk, hk.2⟩ : _ ∧ k_ ≠ gb314))) (fun _ hk => hk.2) (.int .i64 t307)) (fun _ hk => hk.2) (.int .u64 t308)) (fun _ hk => hk.2) (.slice Ao49 t309.length co49)) (fun _ hk => hk.2) (.int .i64 t312)) (fun _ hk => ⟨hk.1.1.1.1.1, ⟨hk.1.1.1.1.2.1, ⟨hk.1.1.2, ⟨hk.1.1.1.1.2.2, ⟨hk.1.1.1.2, hk.1.2⟩⟩⟩⟩⟩)⟩; have n3_ : Aside0 (Kd.N k127 127 ((((w45.setCell ⟨gb314, 0, none⟩ (.int .i64 t307)).setCell ⟨gb314, 1, none⟩ (.int .u64 t308)).setCell ⟨gb314, 2, none⟩ (.slice Ao49 t309.length co49)).setCell ⟨gb314, 3, none⟩ (.int .i64 t312)) w.heap.size (fun k_ => some k_ ≠ (v292 : Value).ownBlock ∧ some k_ ≠ (v297 : Value).ownBlock ∧ some k_ ≠ (.slice Ao43 t301.length co43 : Value).ownBlock ∧ k_ ≠ gb284 ∧ k_ ≠ gb306 ∧ k_ ≠ gb314) (.slice Ao49 t309.length co49) t309) := ⟨by (with_reducible repeat first | apply nA_ | apply nN_ | apply nD_); exact Kd.N_mono (Kd.N_far (p := ⟨gb314, 3, none⟩) (Kd.N_far (p := ⟨gb314, 2, none⟩) (Kd.N_far (p := ⟨gb314, 1, none⟩) (Kd.N_far (p := ⟨gb314, 0, none⟩) (Kd.N_mono HO311.out (fun k_ hk => (⟨hk, hk.2⟩ : _ ∧ k_ ≠ gb314))) (fun _ hk => hk.2) (.int .i64 t307)) (fun _ hk => hk.2) (.int .u64 t308)) (fun _ hk => hk.2) (.slice Ao49 t309.length co49)) (fun _ hk => hk.2) (.int .i64 t312)) (fun _ hk => ⟨hk.1.1.1, ⟨hk.1.1.2.1, ⟨hk.1.1.2.2.1, ⟨hk.1.1.2.2.2.1, ⟨hk.1.1.2.2.2.2, hk.1.2⟩⟩⟩⟩⟩)⟩; have n4_ : Aside0 (((((w45.setCell ⟨gb314, 0, none⟩ (.int .i64 t307)).setCell ⟨gb314, 1, none⟩ (.int .u64 t308)).setCell ⟨gb314, 2, none⟩ (.slice Ao49 t309.length co49)).setCell ⟨gb314, 3, none⟩ (.int .i64 t312)).heap[gb284]? = some (.cells #[.int .i64 a2_0, .int .u64 a2_1] 63 (0, 0))) := ⟨by (with_reducible repeat first | apply zN | apply zD | apply zA); refine blk_far ?_ NB284_314.out _; (with_reducible repeat first | apply zN | apply zD | apply zA); refine blk_far ?_ NB284_314.out _; (with_reducible repeat first | apply zN | apply zD | apply zA); refine blk_far ?_ NB284_314.out _; (with_reducible repeat first | apply zN | apply zD | apply zA); refine blk_far ?_ NB284_314.out _; (with_reducible repeat first | apply zN | apply zD | apply zA); exact BK284.out⟩; have n5_ : Aside0 (((((w45.setCell ⟨gb314, 0, none⟩ (.int .i64 t307)).setCell ⟨gb314, 1, none⟩ (.int .u64 t308)).setCell ⟨gb314, 2, none⟩ (.slice Ao49 t309.length co49)).setCell ⟨gb314, 3, none⟩ (.int .i64 t312)).heap[gb306]? = some (.cells #[.int .i64 t299, .int .u64 t300, .slice Ao43 t301.length co43, .int .i64 t304] 72 (0, 0))) := ⟨by (with_reducible repeat first | apply zN | apply zD | apply zA); refine blk_far ?_ NB306_314.out _; (with_reducible repeat first | apply zN | apply zD | apply zA); refine blk_far ?_ NB306_314.out _; (with_reducible repeat first | apply zN | apply zD | apply zA); refine blk_far ?_ NB306_314.out _; (with_reducible repeat first | apply zN | apply zD | apply zA); refine blk_far ?_ NB306_314.out _; (with_reducible repeat first | apply zN | apply zD | apply zA); exact BK306.out⟩; have n6_ : Aside0 (((((w45.setCell ⟨gb314, 0, none⟩ (.int .i64 t307)).setCell ⟨gb314, 1, none⟩ (.int .u64 t308)).setCell ⟨gb314, 2, none⟩ (.slice Ao49 t309.length co49)).setCell ⟨gb314, 3, none⟩ (.int .i64 t312)).heap[gb314]? = some (.cells #[.int .i64 t307, .int .u64 t308, .slice Ao49 t309.length co49, .int .i64 t312] 77 (0, 0))) := ⟨by (with_reducible repeat first | apply zN | apply zD | apply zA); refine blk_put (cs := #[.int .i64 t307, .int .u64 t308, .slice Ao49 t309.length co49, .int .i64 0]) ?_ 3 _ rfl; (with_reducible repeat first | apply zN | apply zD | apply zA); refine blk_put (cs := #[.int .i64 t307, .int .u64 t308, .slice none 0 0, .int .i64 0]) ?_ 2 _ rfl; (with_reducible repeat first | apply zN | apply zD | apply zA); refine blk_put (cs := #[.int .i64 t307, .int .u64 0, .slice none 0 0, .int .i64 0]) ?_ 1 _ rfl; (with_reducible repeat first | apply zN | apply zD | apply zA); refine blk_put (cs := #[.int .i64 0, .int .u64 0, .slice none 0 0, .int .i64 0]) ?_ 0 _ rfl; (with_reducible repeat first | apply zN | apply zD | apply zA); exact BK314.out⟩; have n7_ : Aside0 (Below w.heap.size w ((((w45.setCell ⟨gb314, 0, none⟩ (.int .i64 t307)).setCell ⟨gb314, 1, none⟩ (.int .u64 t308)).setCell ⟨gb314, 2, none⟩ (.slice Ao49 t309.length co49)).setCell ⟨gb314, 3, none⟩ (.int .i64 t312))) := ⟨by repeat (first | (with_reducible first | exact HB.out | apply yA | apply yN | apply yD | refine yS ?_ GE284.out | refine yS ?_ GE306.out | refine yS ?_ GE314.out) | exact HB.out)⟩; (try clear HO293); (try clear HO298); (try clear HO303); (try clear HO311); (try clear BK284); (try clear BK306); (try clear BK314); (try clear HB); (generalize ((((w45.setCell ⟨gb314, 0, none⟩ (.int .i64 t307)).setCell ⟨gb314, 1, none⟩ (.int .u64 t308)).setCell ⟨gb314, 2, none⟩ (.slice Ao49 t309.length co49)).setCell ⟨gb314, 3, none⟩ (.int .i64 t312)) = w50 at n0_ n1_ n2_ n3_ n4_ n5_ n6_ n7_ ⊢); have HO293 := n0_; have HO298 := n1_; have HO303 := n2_; have HO311 := n3_; have BK284 := n4_; have BK306 := n5_; have BK314 := n6_; have HB := n7_; clear n0_ n1_ n2_ n3_ n4_ n5_ n6_ n7_; have n0_ := Aside0.mk (Kd.R_drew HO293.out); have n1_ := Aside0.mk (Kd.R_drew HO298.out); have n2_ := Aside0.mk (Kd.N_drew HO303.out); have n3_ := Aside0.mk (Kd.N_drew HO311.out); have n4_ := Aside0.mk (blk_drew BK284.out); have n5_ := Aside0.mk (blk_drew BK306.out); have n6_ := Aside0.mk (blk_drew BK314.out); have n7_ := Aside0.mk (below_drew1 HB.out); clear HO293; clear HO298; clear HO303; clear HO311; clear BK284; clear BK306; clear BK314; clear HB; have HO293 := n0_; have HO298 := n1_; have HO303 := n2_; have HO311 := n3_; have BK284 := n4_; have BK306 := n5_; have BK314 := n6_; have HB := n7_; clear n0_ n1_ n2_ n3_ n4_ n5_ n6_ n7_; refine start_ (n := 44) (S := fun w' => w'.cell? ⟨gb306, 0, none⟩ = some (.int .i64 t299) ∧ w'.cell? ⟨gb306, 1, none⟩ = some (.int .u64 t300) ∧ w'.cell? ⟨gb306, 2, none⟩ = some (.slice Ao43 t301.length co43) ∧ w'.cell? ⟨gb306, 3, none⟩ = some (.int .i64 t304) ∧ w'.cell? ⟨gb314, 0, none⟩ = some (.int .i64 t307) ∧ w'.cell? ⟨gb314, 1, none⟩ = some (.int .u64 t308) ∧ w'.cell? ⟨gb314, 2, none⟩ = some (.slice Ao49 t309.length co49) ∧ w'.cell? ⟨gb314, 3, none⟩ = some (.int .i64 t312)) (ds := []) #[false, false, false, false, false, false, false, false, false, false, false, false, false, false, false, false, false, false, false, false, false, false, false, false, false, false, false, false, false, false, false, false, false, false, false, false, false, false, false, false, false, false, false, false] (by kernel_rfl) rfl rfl ⟨(blk_cell BK306.out 0).trans rfl, (blk_cell BK306.out 1).trans rfl, (blk_cell BK306.out 2).trans rfl, (blk_cell BK306.out 3).trans rfl, (blk_cell BK314.out 0).trans rfl, (blk_cell BK314.out 1).trans rfl, (blk_cell BK314.out 2).trans rfl, (blk_cell BK314.out 3).trans rfl⟩ (fun hHeld => ?_); refine with_tabW tiklaw16_SegTells.tab11 tiklaw16_SegTells.bits11 (fun HT_ HW_ => ?_); (generalize w50.drew = w51 at HO293 HO298 HO303 HO311 BK284 BK306 BK314 HB hHeld ⊢); refine one_ (i := 0) (N := some 65) #[true, false, false, false, false, false, false, false, false, false, false, false, false, false, false, false, false, false, false, false, false, false, false, false, false, false, false, false, false, false, false, false, false, false, false, false, false, false, false, false, false, false, false, false] rfl rfl (one_of HT_.out (by kernel_rfl)) (by decide) (fun K hK => ?_); refine goes_ Tryd.func29 (by kernel_rfl) rfl #[] (by rfl) rfl rfl (by (try simp only [List.map_toArray, List.map_cons, List.map_nil]); first | done | rfl | (simp only [List.length_drop, List.length_take]; rfl)) ?_
    with_reducible refine (tiklaw16_first.calls kj6  true _ ?side1 (by first | exact ⟨rfl⟩ | exact hr_) A20.out).mono ?_
    (case side1 => first | (with_reducible exact HT.out) | exact tabAt HT.out (by repeat (first | (with_reducible first | exact HB.out | apply yA | apply yN | apply yD | refine yS ?_ GE284.out | refine yS ?_ GE306.out | refine yS ?_ GE314.out) | exact HB.out))); rintro e w52 ⟨rfl, hb⟩; refine ⟨_, rfl, ?_⟩; have n0_ := Aside0.mk (Kd.R_below (rx_ HO293) hb); have n1_ := Aside0.mk (Kd.R_below (rx_ HO298) hb); have n2_ := Aside0.mk (Kd.N_below (nx_ HO303) hb); have n3_ := Aside0.mk (Kd.N_below (nx_ HO311) hb); have n4_ := Aside0.mk (blk_below (g := gb284) (o := .cells #[.int .i64 a2_0, .int .u64 a2_1] 63 (0, 0)) (bx_ BK284) hb); have n5_ := Aside0.mk (blk_below (g := gb306) (o := .cells #[.int .i64 t299, .int .u64 t300, .slice Ao43 t301.length co43, .int .i64 t304] 72 (0, 0)) (bx_ BK306) hb); have n6_ := Aside0.mk (blk_below (g := gb314) (o := .cells #[.int .i64 t307, .int .u64 t308, .slice Ao49 t309.length co49, .int .i64 t312] 77 (0, 0)) (bx_ BK314) hb); have n7_ := Aside0.mk (below_step (by repeat (first | (with_reducible first | exact HB.out | apply yA | apply yN | apply yD | refine yS ?_ GE284.out | refine yS ?_ GE306.out | refine yS ?_ GE314.out) | exact HB.out)) hb); clear HO293; clear HO298; clear HO303; clear HO311; clear BK284; clear BK306; clear BK314; clear HB; have HO293 := n0_; have HO298 := n1_; have HO303 := n2_; have HO311 := n3_; have BK284 := n4_; have BK306 := n5_; have BK314 := n6_; have HB := n7_; clear n0_ n1_ n2_ n3_ n4_ n5_ n6_ n7_; (try clear hb); (try clear hb2); (try clear hk); (try clear hi); refine hK.out _ _ ⟨(blk_cell BK306.out 0).trans rfl, (blk_cell BK306.out 1).trans rfl, (blk_cell BK306.out 2).trans rfl, (blk_cell BK306.out 3).trans rfl, (blk_cell BK314.out 0).trans rfl, (blk_cell BK314.out 1).trans rfl, (blk_cell BK314.out 2).trans rfl, (blk_cell BK314.out 3).trans rfl⟩ (fun hHeld => ?_); clear hK K; refine norm_ (a' := ?_) ?_ ?_
    rotate_left
    ·show Act.put _ (some 65) _ = _
     simp only [Act.put, List.setIfInBounds_toArray, List.set_cons_zero, List.set_cons_succ, i64_w, i32_w]
     rfl
    refine pure_ (i := 1) (N := some 66) (v := ?_) (a' := ?_) #[true, true, false, false, false, false, false, false, false, false, false, false, false, false, false, false, false, false, false, false, false, false, false, false, false, false, false, false, false, false, false, false, false, false, false, false, false, false, false, false, false, false, false, false] rfl rfl (any_of HT_.out (by kernel_rfl)) (fun _ _ _ h => h) (Or.inl ⟨by rfl, ?_⟩) ?_ ?_
    rotate_left
    ·intro w'
     go_simp
     with_reducible rfl
    rotate_left
    ·simp only [Act.put, List.setIfInBounds_toArray, List.set_cons_zero, List.set_cons_succ, i64_w, i32_w]
     rfl
    refine pure_ (i := 2) (N := some 67) (v := ?_) (a' := ?_) #[true, true, true, false, false, false, false, false, false, false, false, false, false, false, false, false, false, false, false, false, false, false, false, false, false, false, false, false, false, false, false, false, false, false, false, false, false, false, false, false, false, false, false, false] rfl rfl (any_of HT_.out (by kernel_rfl)) (fun _ _ _ h => h) (Or.inl ⟨by rfl, ?_⟩) ?_ ?_
    rotate_left
    ·intro w'
     go_simp
     with_reducible rfl
    rotate_left
    ·simp only [Act.put, List.setIfInBounds_toArray, List.set_cons_zero, List.set_cons_succ, i64_w, i32_w]
     rfl
    refine pure_ (i := 4) (N := some 69) (v := ?_) (a' := ?_) #[true, true, true, false, true, false, false, false, false, false, false, false, false, false, false, false, false, false, false, false, false, false, false, false, false, false, false, false, false, false, false, false, false, false, false, false, false, false, false, false, false, false, false, false] rfl rfl (any_of HT_.out (by kernel_rfl)) (fun _ _ _ h => h) (Or.inl ⟨by rfl, ?_⟩) ?_ ?_
    rotate_left
    ·intro w'
     go_simp
     with_reducible rfl
    rotate_left
    ·simp only [Act.put, List.setIfInBounds_toArray, List.set_cons_zero, List.set_cons_succ, i64_w, i32_w]
     rfl
    refine one_ (i := 3) (N := some 68) #[true, true, true, true, true, false, false, false, false, false, false, false, false, false, false, false, false, false, false, false, false, false, false, false, false, false, false, false, false, false, false, false, false, false, false, false, false, false, false, false, false, false, false, false] rfl rfl (one_of HT_.out (by kernel_rfl)) (by decide) (fun K hK => ?_); refine goes_ Tryd.func36 (by kernel_rfl) rfl #[.int .i64 a0] (by rfl) rfl rfl (by (try simp only [List.map_toArray, List.map_cons, List.map_nil]); first | done | rfl | (simp only [List.length_drop, List.length_take]; rfl)) ?_
    with_reducible refine (seg_Name.calls a0 t316 _ ?side1 A22.out).mono ?_
    (case side1 => first | (with_reducible exact HT.out) | exact tabAt HT.out (by repeat (first | (with_reducible first | exact HB.out | apply yA | apply yN | apply yD | refine yS ?_ GE284.out | refine yS ?_ GE306.out | refine yS ?_ GE314.out) | exact HB.out))); rintro e w53 ⟨rfl, hb⟩; refine ⟨_, rfl, ?_⟩; have n0_ := Aside0.mk (Kd.R_below (rx_ HO293) hb); have n1_ := Aside0.mk (Kd.R_below (rx_ HO298) hb); have n2_ := Aside0.mk (Kd.N_below (nx_ HO303) hb); have n3_ := Aside0.mk (Kd.N_below (nx_ HO311) hb); have n4_ := Aside0.mk (blk_below (g := gb284) (o := .cells #[.int .i64 a2_0, .int .u64 a2_1] 63 (0, 0)) (bx_ BK284) hb); have n5_ := Aside0.mk (blk_below (g := gb306) (o := .cells #[.int .i64 t299, .int .u64 t300, .slice Ao43 t301.length co43, .int .i64 t304] 72 (0, 0)) (bx_ BK306) hb); have n6_ := Aside0.mk (blk_below (g := gb314) (o := .cells #[.int .i64 t307, .int .u64 t308, .slice Ao49 t309.length co49, .int .i64 t312] 77 (0, 0)) (bx_ BK314) hb); have n7_ := Aside0.mk (below_step (by repeat (first | (with_reducible first | exact HB.out | apply yA | apply yN | apply yD | refine yS ?_ GE284.out | refine yS ?_ GE306.out | refine yS ?_ GE314.out) | exact HB.out)) hb); clear HO293; clear HO298; clear HO303; clear HO311; clear BK284; clear BK306; clear BK314; clear HB; have HO293 := n0_; have HO298 := n1_; have HO303 := n2_; have HO311 := n3_; have BK284 := n4_; have BK306 := n5_; have BK314 := n6_; have HB := n7_; clear n0_ n1_ n2_ n3_ n4_ n5_ n6_ n7_; (try clear hb); (try clear hb2); (try clear hk); (try clear hi); refine hK.out _ _ ⟨(blk_cell BK306.out 0).trans rfl, (blk_cell BK306.out 1).trans rfl, (blk_cell BK306.out 2).trans rfl, (blk_cell BK306.out 3).trans rfl, (blk_cell BK314.out 0).trans rfl, (blk_cell BK314.out 1).trans rfl, (blk_cell BK314.out 2).trans rfl, (blk_cell BK314.out 3).trans rfl⟩ (fun hHeld => ?_); clear hK K; refine norm_ (a' := ?_) ?_ ?_
    rotate_left
    ·show Act.put _ (some 68) _ = _
     simp only [Act.put, List.setIfInBounds_toArray, List.set_cons_zero, List.set_cons_succ, i64_w, i32_w]
     rfl
    refine one_ (i := 5) (N := some 70) #[true, true, true, true, true, true, false, false, false, false, false, false, false, false, false, false, false, false, false, false, false, false, false, false, false, false, false, false, false, false, false, false, false, false, false, false, false, false, false, false, false, false, false, false] rfl rfl (one_of HT_.out (by kernel_rfl)) (by decide) (fun K hK => ?_); refine goes_ Tryd.func37 (by kernel_rfl) rfl #[.int .i64 a0] (by rfl) rfl rfl (by (try simp only [List.map_toArray, List.map_cons, List.map_nil]); first | done | rfl | (simp only [List.length_drop, List.length_take]; rfl)) ?_
    with_reducible refine (tikref13_Name.calls kj6 a0 t317 _ A23.out).mono ?_
    rintro e w54 ⟨rfl, hb⟩; refine ⟨_, rfl, ?_⟩; have n0_ := Aside0.mk (Kd.R_below (rx_ HO293) hb); have n1_ := Aside0.mk (Kd.R_below (rx_ HO298) hb); have n2_ := Aside0.mk (Kd.N_below (nx_ HO303) hb); have n3_ := Aside0.mk (Kd.N_below (nx_ HO311) hb); have n4_ := Aside0.mk (blk_below (g := gb284) (o := .cells #[.int .i64 a2_0, .int .u64 a2_1] 63 (0, 0)) (bx_ BK284) hb); have n5_ := Aside0.mk (blk_below (g := gb306) (o := .cells #[.int .i64 t299, .int .u64 t300, .slice Ao43 t301.length co43, .int .i64 t304] 72 (0, 0)) (bx_ BK306) hb); have n6_ := Aside0.mk (blk_below (g := gb314) (o := .cells #[.int .i64 t307, .int .u64 t308, .slice Ao49 t309.length co49, .int .i64 t312] 77 (0, 0)) (bx_ BK314) hb); have n7_ := Aside0.mk (below_step (by repeat (first | (with_reducible first | exact HB.out | apply yA | apply yN | apply yD | refine yS ?_ GE284.out | refine yS ?_ GE306.out | refine yS ?_ GE314.out) | exact HB.out)) hb); clear HO293; clear HO298; clear HO303; clear HO311; clear BK284; clear BK306; clear BK314; clear HB; have HO293 := n0_; have HO298 := n1_; have HO303 := n2_; have HO311 := n3_; have BK284 := n4_; have BK306 := n5_; have BK314 := n6_; have HB := n7_; clear n0_ n1_ n2_ n3_ n4_ n5_ n6_ n7_; (try clear hb); (try clear hb2); (try clear hk); (try clear hi); obtain ⟨Ao55, co55, eo55⟩ := Kd.R_slice HO293.out; (first | subst eo55 | (injection eo55 with f1_ f2_ f3_; have f4_ := f1_.symm; have f5_ := f3_.symm; clear f1_ f2_ f3_; subst f4_; subst f5_)); obtain ⟨Ao56, co56, eo56⟩ := Kd.R_slice HO298.out; (first | subst eo56 | (injection eo56 with f1_ f2_ f3_; have f4_ := f1_.symm; have f5_ := f3_.symm; clear f1_ f2_ f3_; subst f4_; subst f5_)); refine hK.out _ _ ⟨(blk_cell BK306.out 0).trans rfl, (blk_cell BK306.out 1).trans rfl, (blk_cell BK306.out 2).trans rfl, (blk_cell BK306.out 3).trans rfl, (blk_cell BK314.out 0).trans rfl, (blk_cell BK314.out 1).trans rfl, (blk_cell BK314.out 2).trans rfl, (blk_cell BK314.out 3).trans rfl⟩ (fun hHeld => ?_); clear hK K; refine norm_ (a' := ?_) ?_ ?_
    rotate_left
    ·show Act.put _ (some 70) _ = _
     simp only [Act.put, List.setIfInBounds_toArray, List.set_cons_zero, List.set_cons_succ, i64_w, i32_w]
     rfl
    refine pure_ (i := 6) (N := some 71) (v := ?_) (a' := ?_) #[true, true, true, true, true, true, true, false, false, false, false, false, false, false, false, false, false, false, false, false, false, false, false, false, false, false, false, false, false, false, false, false, false, false, false, false, false, false, false, false, false, false, false, false] rfl rfl (any_of HT_.out (by kernel_rfl)) (fun _ _ _ h => h) (Or.inl ⟨by rfl, ?_⟩) ?_ ?_
    rotate_left
    ·intro w'
     go_simp
     with_reducible rfl
    rotate_left
    ·simp only [Act.put, List.setIfInBounds_toArray, List.set_cons_zero, List.set_cons_succ, i64_w, i32_w]
     rfl
    refine pure_ (i := 7) (N := some 72) (v := ?_) (a' := ?_) #[true, true, true, true, true, true, true, true, false, false, false, false, false, false, false, false, false, false, false, false, false, false, false, false, false, false, false, false, false, false, false, false, false, false, false, false, false, false, false, false, false, false, false, false] rfl rfl (any_of HT_.out (by kernel_rfl)) (fun _ _ _ h => h) (Or.inl ⟨by rfl, ?_⟩) ?_ ?_
    rotate_left
    ·intro w'
     go_simp
     with_reducible rfl
    rotate_left
    ·simp only [Act.put, List.setIfInBounds_toArray, List.set_cons_zero, List.set_cons_succ, i64_w, i32_w]
     rfl
    refine pure_ (i := 8) (N := some 73) (v := ?_) (a' := ?_) #[true, true, true, true, true, true, true, true, true, false, false, false, false, false, false, false, false, false, false, false, false, false, false, false, false, false, false, false, false, false, false, false, false, false, false, false, false, false, false, false, false, false, false, false] rfl rfl (any_of HT_.out (by kernel_rfl)) (fun _ _ _ h => h) (Or.inl ⟨by rfl, ?_⟩) ?_ ?_
    rotate_left
    ·intro w'
     go_simp
     with_reducible rfl
    rotate_left
    ·simp only [Act.put, List.setIfInBounds_toArray, List.set_cons_zero, List.set_cons_succ, i64_w, i32_w]
     rfl
    refine pure_ (i := 9) (N := some 74) (v := ?_) (a' := ?_) #[true, true, true, true, true, true, true, true, true, true, false, false, false, false, false, false, false, false, false, false, false, false, false, false, false, false, false, false, false, false, false, false, false, false, false, false, false, false, false, false, false, false, false, false] rfl rfl (any_of HT_.out (by kernel_rfl)) (fun _ _ _ h => h) (Or.inl ⟨by rfl, ?_⟩) ?_ ?_
    rotate_left
    ·intro w'
     go_simp
     with_reducible rfl
    rotate_left
    ·simp only [Act.put, List.setIfInBounds_toArray, List.set_cons_zero, List.set_cons_succ, i64_w, i32_w]
     rfl
    refine pure_ (i := 10) (N := some 75) (v := ?_) (a' := ?_) #[true, true, true, true, true, true, true, true, true, true, true, false, false, false, false, false, false, false, false, false, false, false, false, false, false, false, false, false, false, false, false, false, false, false, false, false, false, false, false, false, false, false, false, false] rfl rfl (any_of HT_.out (by kernel_rfl)) (fun _ _ _ h => h) (Or.inl ⟨by rfl, ?_⟩) ?_ ?_
    rotate_left
    ·intro w'
     go_simp
     with_reducible rfl
    rotate_left
    ·simp only [Act.put, List.setIfInBounds_toArray, List.set_cons_zero, List.set_cons_succ, i64_w, i32_w]
     rfl
    refine pure_ (i := 11) (N := some 76) (v := ?_) (a' := ?_) #[true, true, true, true, true, true, true, true, true, true, true, true, false, false, false, false, false, false, false, false, false, false, false, false, false, false, false, false, false, false, false, false, false, false, false, false, false, false, false, false, false, false, false, false] rfl rfl (any_of HT_.out (by kernel_rfl)) (fun _ _ _ h => h) (Or.inl ⟨by rfl, ?_⟩) ?_ ?_
    rotate_left
    ·intro w'
     go_simp
     with_reducible rfl
    rotate_left
    ·simp only [Act.put, List.setIfInBounds_toArray, List.set_cons_zero, List.set_cons_succ, i64_w, i32_w]
     rfl
    refine pure_ (i := 12) (N := some 77) (v := ?_) (a' := ?_) #[true, true, true, true, true, true, true, true, true, true, true, true, true, false, false, false, false, false, false, false, false, false, false, false, false, false, false, false, false, false, false, false, false, false, false, false, false, false, false, false, false, false, false, false] rfl rfl (any_of HT_.out (by kernel_rfl)) (fun _ _ _ h => h) (Or.inl ⟨by rfl, ?_⟩) ?_ ?_
    rotate_left
    ·intro w'
     go_simp
     with_reducible rfl
    rotate_left
    ·simp only [Act.put, List.setIfInBounds_toArray, List.set_cons_zero, List.set_cons_succ, i64_w, i32_w]
     rfl
    refine pure_ (i := 13) (N := some 78) (v := ?_) (a' := ?_) #[true, true, true, true, true, true, true, true, true, true, true, true, true, true, false, false, false, false, false, false, false, false, false, false, false, false, false, false, false, false, false, false, false, false, false, false, false, false, false, false, false, false, false, false] rfl rfl (any_of HT_.out (by kernel_rfl)) (fun _ _ _ h => h) (Or.inl ⟨by rfl, ?_⟩) ?_ ?_
    rotate_left
    ·intro w'
     go_simp
     with_reducible rfl
    rotate_left
    ·simp only [Act.put, List.setIfInBounds_toArray, List.set_cons_zero, List.set_cons_succ, i64_w, i32_w]
     rfl
    refine pure_ (i := 14) (N := some 79) (v := ?_) (a' := ?_) #[true, true, true, true, true, true, true, true, true, true, true, true, true, true, true, false, false, false, false, false, false, false, false, false, false, false, false, false, false, false, false, false, false, false, false, false, false, false, false, false, false, false, false, false] rfl rfl (any_of HT_.out (by kernel_rfl)) (fun _ _ _ h => h) (Or.inl ⟨by rfl, ?_⟩) ?_ ?_
    rotate_left
    ·intro w'
     go_simp
     with_reducible rfl
    rotate_left
    ·simp only [Act.put, List.setIfInBounds_toArray, List.set_cons_zero, List.set_cons_succ, i64_w, i32_w]
     rfl
    refine pure_ (i := 15) (N := some 80) (v := ?_) (a' := ?_) #[true, true, true, true, true, true, true, true, true, true, true, true, true, true, true, true, false, false, false, false, false, false, false, false, false, false, false, false, false, false, false, false, false, false, false, false, false, false, false, false, false, false, false, false] rfl rfl (any_of HT_.out (by kernel_rfl)) (fun _ _ _ h => h) (Or.inl ⟨by rfl, ?_⟩) ?_ ?_
    rotate_left
    ·intro w'
     go_simp
     with_reducible rfl
    rotate_left
    ·simp only [Act.put, List.setIfInBounds_toArray, List.set_cons_zero, List.set_cons_succ, i64_w, i32_w]
     rfl
    refine pure_ (i := 16) (N := some 81) (v := ?_) (a' := ?_) #[true, true, true, true, true, true, true, true, true, true, true, true, true, true, true, true, true, false, false, false, false, false, false, false, false, false, false, false, false, false, false, false, false, false, false, false, false, false, false, false, false, false, false, false] rfl rfl (any_of HT_.out (by kernel_rfl)) (fun _ _ _ h => h) (Or.inl ⟨by rfl, ?_⟩) ?_ ?_
    rotate_left
    ·intro w'
     go_simp
     with_reducible rfl
    rotate_left
    ·simp only [Act.put, List.setIfInBounds_toArray, List.set_cons_zero, List.set_cons_succ, i64_w, i32_w]
     rfl
    refine pure_ (i := 17) (N := some 82) (v := ?_) (a' := ?_) #[true, true, true, true, true, true, true, true, true, true, true, true, true, true, true, true, true, true, false, false, false, false, false, false, false, false, false, false, false, false, false, false, false, false, false, false, false, false, false, false, false, false, false, false] rfl rfl (any_of HT_.out (by kernel_rfl)) (fun _ _ _ h => h) (Or.inl ⟨by rfl, ?_⟩) ?_ ?_
    rotate_left
    ·intro w'
     go_simp
     with_reducible rfl
    rotate_left
    ·simp only [Act.put, List.setIfInBounds_toArray, List.set_cons_zero, List.set_cons_succ, i64_w, i32_w]
     rfl
    refine pure_ (i := 18) (N := some 83) (v := ?_) (a' := ?_) #[true, true, true, true, true, true, true, true, true, true, true, true, true, true, true, true, true, true, true, false, false, false, false, false, false, false, false, false, false, false, false, false, false, false, false, false, false, false, false, false, false, false, false, false] rfl rfl (any_of HT_.out (by kernel_rfl)) (fun _ _ _ h => h) (Or.inl ⟨by rfl, ?_⟩) ?_ ?_
    rotate_left
    ·intro w'
     go_simp
     with_reducible rfl
    rotate_left
    ·simp only [Act.put, List.setIfInBounds_toArray, List.set_cons_zero, List.set_cons_succ, i64_w, i32_w]
     rfl
    refine pure_ (i := 19) (N := some 84) (v := ?_) (a' := ?_) #[true, true, true, true, true, true, true, true, true, true, true, true, true, true, true, true, true, true, true, true, false, false, false, false, false, false, false, false, false, false, false, false, false, false, false, false, false, false, false, false, false, false, false, false] rfl rfl (any_of HT_.out (by kernel_rfl)) (fun _ _ _ h => h) (Or.inl ⟨by rfl, ?_⟩) ?_ ?_
    rotate_left
    ·intro w'
     go_simp
     with_reducible rfl
    rotate_left
    ·simp only [Act.put, List.setIfInBounds_toArray, List.set_cons_zero, List.set_cons_succ, i64_w, i32_w]
     rfl
    refine pure_ (i := 20) (N := some 85) (v := ?_) (a' := ?_) #[true, true, true, true, true, true, true, true, true, true, true, true, true, true, true, true, true, true, true, true, true, false, false, false, false, false, false, false, false, false, false, false, false, false, false, false, false, false, false, false, false, false, false, false] rfl rfl (any_of HT_.out (by kernel_rfl)) (fun _ _ _ h => h) (Or.inl ⟨by rfl, ?_⟩) ?_ ?_
    rotate_left
    ·intro w'
     go_simp
     with_reducible rfl
    rotate_left
    ·simp only [Act.put, List.setIfInBounds_toArray, List.set_cons_zero, List.set_cons_succ, i64_w, i32_w]
     rfl
    refine pure_ (i := 21) (N := some 86) (v := ?_) (a' := ?_) #[true, true, true, true, true, true, true, true, true, true, true, true, true, true, true, true, true, true, true, true, true, true, false, false, false, false, false, false, false, false, false, false, false, false, false, false, false, false, false, false, false, false, false, false] rfl rfl (any_of HT_.out (by kernel_rfl)) (fun _ _ _ h => h) (Or.inl ⟨by rfl, ?_⟩) ?_ ?_
    rotate_left
    ·intro w'
     go_simp
     with_reducible rfl
    rotate_left
    ·simp only [Act.put, List.setIfInBounds_toArray, List.set_cons_zero, List.set_cons_succ, i64_w, i32_w]
     rfl
    refine pure_ (i := 22) (N := some 87) (v := ?_) (a' := ?_) #[true, true, true, true, true, true, true, true, true, true, true, true, true, true, true, true, true, true, true, true, true, true, true, false, false, false, false, false, false, false, false, false, false, false, false, false, false, false, false, false, false, false, false, false] rfl rfl (any_of HT_.out (by kernel_rfl)) (fun _ _ _ h => h) (Or.inl ⟨by rfl, ?_⟩) ?_ ?_
    rotate_left
    ·intro w'
     go_simp
     with_reducible rfl
    rotate_left
    ·simp only [Act.put, List.setIfInBounds_toArray, List.set_cons_zero, List.set_cons_succ, i64_w, i32_w]
     rfl
    refine pure_ (i := 23) (N := some 88) (v := ?_) (a' := ?_) #[true, true, true, true, true, true, true, true, true, true, true, true, true, true, true, true, true, true, true, true, true, true, true, true, false, false, false, false, false, false, false, false, false, false, false, false, false, false, false, false, false, false, false, false] rfl rfl (any_of HT_.out (by kernel_rfl)) (fun _ _ _ h => h) (Or.inl ⟨by rfl, ?_⟩) ?_ ?_
    rotate_left
    ·intro w'
     go_simp
     with_reducible rfl
    rotate_left
    ·simp only [Act.put, List.setIfInBounds_toArray, List.set_cons_zero, List.set_cons_succ, i64_w, i32_w]
     rfl
    refine pure_ (i := 24) (N := some 89) (v := ?_) (a' := ?_) #[true, true, true, true, true, true, true, true, true, true, true, true, true, true, true, true, true, true, true, true, true, true, true, true, true, false, false, false, false, false, false, false, false, false, false, false, false, false, false, false, false, false, false, false] rfl rfl (any_of HT_.out (by kernel_rfl)) (fun _ _ _ h => h) (Or.inl ⟨by rfl, ?_⟩) ?_ ?_
    rotate_left
    ·intro w'
     go_simp
     with_reducible rfl
    rotate_left
    ·simp only [Act.put, List.setIfInBounds_toArray, List.set_cons_zero, List.set_cons_succ, i64_w, i32_w]
     rfl
    refine one_ (i := 25) (N := some 90) #[true, true, true, true, true, true, true, true, true, true, true, true, true, true, true, true, true, true, true, true, true, true, true, true, true, true, false, false, false, false, false, false, false, false, false, false, false, false, false, false, false, false, false, false] rfl rfl (one_of HT_.out (by kernel_rfl)) (by decide) (fun K hK => ?_); refine goes_ Tryd.func38 (by kernel_rfl) rfl #[.slice Ao55 t291.length co55, .slice Ao56 t295.length co56] (by rfl) rfl rfl (by (try simp only [List.map_toArray, List.map_cons, List.map_nil]); first | done | rfl | (simp only [List.length_drop, List.length_take]; rfl)) ?_
    with_reducible refine (tikref_Bytes.calls _ _ t291 _ _ t295 true _ ?side1 ?side2 ?side3 ?side4 A28.out).mono ?_
    (case side1 => repeat (first | exact (Kd.R_reads' HO293.out).2.2 | (with_reducible refine Kd.C_alloc ?_ _) | (with_reducible refine Kd.C_drewN ?_ _) | (with_reducible refine Kd.C_drew ?_))); (case side2 => exact (Kd.R_reads' HO293.out).2.1); (case side3 => repeat (first | exact (Kd.R_reads' HO298.out).2.2 | (with_reducible refine Kd.C_alloc ?_ _) | (with_reducible refine Kd.C_drewN ?_ _) | (with_reducible refine Kd.C_drew ?_))); (case side4 => exact (Kd.R_reads' HO298.out).2.1); rintro e w' ⟨rfl, ⟨nd, rfl⟩⟩; refine ⟨_, rfl, ?_⟩; refine hK.out _ _ ⟨(blk_cell BK306.out 0).trans rfl, (blk_cell BK306.out 1).trans rfl, (blk_cell BK306.out 2).trans rfl, (blk_cell BK306.out 3).trans rfl, (blk_cell BK314.out 0).trans rfl, (blk_cell BK314.out 1).trans rfl, (blk_cell BK314.out 2).trans rfl, (blk_cell BK314.out 3).trans rfl⟩ (fun hHeld => ?_); clear hK K; refine norm_ (a' := ?_) ?_ ?_
    rotate_left
    ·show Act.put _ (some 90) _ = _
     simp only [Act.put, List.setIfInBounds_toArray, List.set_cons_zero, List.set_cons_succ, i64_w, i32_w]
     rfl
    refine pure_ (i := 26) (N := some 91) (v := ?_) (a' := ?_) #[true, true, true, true, true, true, true, true, true, true, true, true, true, true, true, true, true, true, true, true, true, true, true, true, true, true, true, false, false, false, false, false, false, false, false, false, false, false, false, false, false, false, false, false] rfl rfl (any_of HT_.out (by kernel_rfl)) (fun _ _ _ h => h) (Or.inl ⟨by rfl, ?_⟩) ?_ ?_
    rotate_left
    ·intro w'
     go_simp
     with_reducible rfl
    rotate_left
    ·simp only [Act.put, List.setIfInBounds_toArray, List.set_cons_zero, List.set_cons_succ, i64_w, i32_w]
     rfl
    refine pure_ (i := 27) (N := some 92) (v := ?_) (a' := ?_) #[true, true, true, true, true, true, true, true, true, true, true, true, true, true, true, true, true, true, true, true, true, true, true, true, true, true, true, true, false, false, false, false, false, false, false, false, false, false, false, false, false, false, false, false] rfl rfl (any_of HT_.out (by kernel_rfl)) (fun _ _ _ h => h) (Or.inl ⟨by rfl, ?_⟩) ?_ ?_
    rotate_left
    ·intro w'
     go_simp
     with_reducible rfl
    rotate_left
    ·simp only [Act.put, List.setIfInBounds_toArray, List.set_cons_zero, List.set_cons_succ, i64_w, i32_w]
     rfl
    refine pure_ (i := 28) (N := some 93) (v := ?_) (a' := ?_) #[true, true, true, true, true, true, true, true, true, true, true, true, true, true, true, true, true, true, true, true, true, true, true, true, true, true, true, true, true, false, false, false, false, false, false, false, false, false, false, false, false, false, false, false] rfl rfl (any_of HT_.out (by kernel_rfl)) (fun _ _ _ h => h) (Or.inl ⟨by rfl, ?_⟩) ?_ ?_
    rotate_left
    ·intro w'
     go_simp
     with_reducible rfl
    rotate_left
    ·simp only [Act.put, List.setIfInBounds_toArray, List.set_cons_zero, List.set_cons_succ, i64_w, i32_w]
     rfl
    refine pure_ (i := 29) (N := some 94) (v := ?_) (a' := ?_) #[true, true, true, true, true, true, true, true, true, true, true, true, true, true, true, true, true, true, true, true, true, true, true, true, true, true, true, true, true, true, false, false, false, false, false, false, false, false, false, false, false, false, false, false] rfl rfl (any_of HT_.out (by kernel_rfl)) (fun _ _ _ h => h) (Or.inl ⟨by rfl, ?_⟩) ?_ ?_
    rotate_left
    ·intro w'
     go_simp
     with_reducible rfl
    rotate_left
    ·simp only [Act.put, List.setIfInBounds_toArray, List.set_cons_zero, List.set_cons_succ, i64_w, i32_w]
     rfl
    refine pure_ (i := 30) (N := some 95) (v := ?_) (a' := ?_) #[true, true, true, true, true, true, true, true, true, true, true, true, true, true, true, true, true, true, true, true, true, true, true, true, true, true, true, true, true, true, true, false, false, false, false, false, false, false, false, false, false, false, false, false] rfl rfl (any_of HT_.out (by kernel_rfl)) (fun _ _ _ h => h) (Or.inl ⟨by rfl, ?_⟩) ?_ ?_
    rotate_left
    ·intro w'
     go_simp
     with_reducible rfl
    rotate_left
    ·simp only [Act.put, List.setIfInBounds_toArray, List.set_cons_zero, List.set_cons_succ, i64_w, i32_w]
     rfl
    refine pure_ (i := 31) (N := some 96) (v := ?_) (a' := ?_) #[true, true, true, true, true, true, true, true, true, true, true, true, true, true, true, true, true, true, true, true, true, true, true, true, true, true, true, true, true, true, true, true, false, false, false, false, false, false, false, false, false, false, false, false] rfl rfl (any_of HT_.out (by kernel_rfl)) (fun _ _ _ h => h) (Or.inl ⟨by rfl, ?_⟩) ?_ ?_
    rotate_left
    ·intro w'
     go_simp
     with_reducible rfl
    rotate_left
    ·simp only [Act.put, List.setIfInBounds_toArray, List.set_cons_zero, List.set_cons_succ, i64_w, i32_w]
     rfl
    refine pure_ (i := 32) (N := some 97) (v := ?_) (a' := ?_) #[true, true, true, true, true, true, true, true, true, true, true, true, true, true, true, true, true, true, true, true, true, true, true, true, true, true, true, true, true, true, true, true, true, false, false, false, false, false, false, false, false, false, false, false] rfl rfl (any_of HT_.out (by kernel_rfl)) (fun _ _ _ h => h) (Or.inl ⟨by rfl, ?_⟩) ?_ ?_
    rotate_left
    ·intro w'
     go_simp
     with_reducible rfl
    rotate_left
    ·simp only [Act.put, List.setIfInBounds_toArray, List.set_cons_zero, List.set_cons_succ, i64_w, i32_w]
     rfl
    refine take_ (i := 33) (N := some 98) (v := ?_) (a' := ?_) #[true, true, true, true, true, true, true, true, true, true, true, true, true, true, true, true, true, true, true, true, true, true, true, true, true, true, true, true, true, true, true, true, true, true, false, false, false, false, false, false, false, false, false, false] rfl rfl (take_ofW HT_.out HW_.out (by kernel_rfl)) (fun _ _ _ h => h) (Or.inl ⟨by rfl, ?_⟩) hHeld ?_ ?_
    rotate_left
    ·rintro w' ⟨s0, s1, s2, s3, s4, s5, s6, s7⟩
     go_simp
     with_reducible rfl
    rotate_left
    ·simp only [Act.put, List.setIfInBounds_toArray, List.set_cons_zero, List.set_cons_succ, i64_w, i32_w]
     rfl
    refine take_ (i := 35) (N := some 100) (v := ?_) (a' := ?_) #[true, true, true, true, true, true, true, true, true, true, true, true, true, true, true, true, true, true, true, true, true, true, true, true, true, true, true, true, true, true, true, true, true, true, false, true, false, false, false, false, false, false, false, false] rfl rfl (take_ofW HT_.out HW_.out (by kernel_rfl)) (fun _ _ _ h => h) (Or.inl ⟨by rfl, ?_⟩) hHeld ?_ ?_
    rotate_left
    ·rintro w' ⟨s0, s1, s2, s3, s4, s5, s6, s7⟩
     go_simp
     with_reducible rfl
    rotate_left
    ·simp only [Act.put, List.setIfInBounds_toArray, List.set_cons_zero, List.set_cons_succ, i64_w, i32_w]
     rfl
    refine one_ (i := 34) (N := some 99) #[true, true, true, true, true, true, true, true, true, true, true, true, true, true, true, true, true, true, true, true, true, true, true, true, true, true, true, true, true, true, true, true, true, true, true, true, false, false, false, false, false, false, false, false] rfl rfl (one_of HT_.out (by kernel_rfl)) (by decide) (fun K hK => ?_); refine goes_ Tryd.func40 (by kernel_rfl) rfl #[.agg #[.int .i64 t299, .int .u64 t300, .slice Ao43 t301.length co43, .int .i64 t304]] (by rfl) rfl rfl (by (try simp only [List.map_toArray, List.map_cons, List.map_nil]); first | done | rfl | (simp only [List.length_drop, List.length_take]; rfl)) ?_
    with_reducible refine (tiklaw16_Plain.calls kj6 t299 t300 (fun k_ => (some k_ ≠ (.slice Ao55 t291.length co55 : Value).ownBlock ∧ (some k_ ≠ (.slice Ao56 t295.length co56 : Value).ownBlock ∧ (some k_ ≠ (.slice Ao49 t309.length co49 : Value).ownBlock ∧ (k_ ≠ gb284 ∧ (k_ ≠ gb306 ∧ k_ ≠ gb314)))))) _ _ t301 t304 t319 t320 t321 t324 _ ?side1 A31.out).mono ?_
    (case side1 => exact Kd.N_V (HO303.out)); rintro e w57 ⟨v322, rfl, ho0, hb⟩; refine ⟨_, rfl, ?_⟩; have n0_ := Aside0.mk (Kd.R_below (rx_ HO293) hb); have n1_ := Aside0.mk (Kd.R_below (rx_ HO298) hb); have n2_ := Aside0.mk (Kd.N_elder' (nx_ HO303) (by first | exact Kd.N_base ho0 | exact Kd.R_base ho0 | exact Kd.S_base ho0) hb); have n3_ := Aside0.mk (Kd.N_elder' (nx_ HO311) (by first | exact Kd.N_base ho0 | exact Kd.R_base ho0 | exact Kd.S_base ho0) hb); have n4_ := Aside0.mk (Kd.N_lower (Kd.N_mono (ok' := fun k_ => some k_ ≠ (.slice Ao55 t291.length co55 : Value).ownBlock ∧ some k_ ≠ (.slice Ao56 t295.length co56 : Value).ownBlock ∧ some k_ ≠ (.slice Ao49 t309.length co49 : Value).ownBlock ∧ k_ ≠ gb284 ∧ k_ ≠ gb306 ∧ k_ ≠ gb314) ho0 (fun k_ hk_ => ⟨Or.elim hk_ (fun hs_ => hs_.1) (fun hn_ => (Kd.fresh' (Kd.R_lt (rx_ HO293)) k_ hn_)), Or.elim hk_ (fun hs_ => hs_.2.1) (fun hn_ => (Kd.fresh' (Kd.R_lt (rx_ HO298)) k_ hn_)), Or.elim hk_ (fun hs_ => hs_.2.2.1) (fun hn_ => (Kd.fresh' (Kd.N_lt (nx_ HO311)) k_ hn_)), Or.elim hk_ (fun hs_ => hs_.2.2.2.1) (fun hn_ => (Kd.freshB (g := gb284) (o := .cells #[.int .i64 a2_0, .int .u64 a2_1] 63 (0, 0)) (bx_ BK284) k_ hn_)), Or.elim hk_ (fun hs_ => hs_.2.2.2.2.1) (fun hn_ => (Kd.freshB (g := gb306) (o := .cells #[.int .i64 t299, .int .u64 t300, .slice Ao43 t301.length co43, .int .i64 t304] 72 (0, 0)) (bx_ BK306) k_ hn_)), Or.elim hk_ (fun hs_ => hs_.2.2.2.2.2) (fun hn_ => (Kd.freshB (g := gb314) (o := .cells #[.int .i64 t307, .int .u64 t308, .slice Ao49 t309.length co49, .int .i64 t312] 77 (0, 0)) (bx_ BK314) k_ hn_))⟩)) (below_size (by repeat (first | (with_reducible first | exact HB.out | apply yA | apply yN | apply yD | refine yS ?_ GE284.out | refine yS ?_ GE306.out | refine yS ?_ GE314.out) | exact HB.out)))); have n5_ := Aside0.mk (blk_below (g := gb284) (o := .cells #[.int .i64 a2_0, .int .u64 a2_1] 63 (0, 0)) (bx_ BK284) hb); have n6_ := Aside0.mk (blk_below (g := gb306) (o := .cells #[.int .i64 t299, .int .u64 t300, .slice Ao43 t301.length co43, .int .i64 t304] 72 (0, 0)) (bx_ BK306) hb); have n7_ := Aside0.mk (blk_below (g := gb314) (o := .cells #[.int .i64 t307, .int .u64 t308, .slice Ao49 t309.length co49, .int .i64 t312] 77 (0, 0)) (bx_ BK314) hb); have n8_ := Aside0.mk (below_step (by repeat (first | (with_reducible first | exact HB.out | apply yA | apply yN | apply yD | refine yS ?_ GE284.out | refine yS ?_ GE306.out | refine yS ?_ GE314.out) | exact HB.out)) hb); clear HO293; clear HO298; clear HO303; clear HO311; clear BK284; clear BK306; clear BK314; clear HB; have HO293 := n0_; have HO298 := n1_; have HO303 := n2_; have HO311 := n3_; have HO323 := n4_; have BK284 := n5_; have BK306 := n6_; have BK314 := n7_; have HB := n8_; clear n0_ n1_ n2_ n3_ n4_ n5_ n6_ n7_ n8_; (try clear hb); (try clear hb2); (try clear hk); (try clear hi); (try clear ho0); obtain ⟨Ao58, co58, eo58⟩ := Kd.N_slice HO323.out; (first | subst eo58 | (injection eo58 with f1_ f2_ f3_; have f4_ := f1_.symm; have f5_ := f3_.symm; clear f1_ f2_ f3_; subst f4_; subst f5_)); refine hK.out _ _ ⟨(blk_cell BK306.out 0).trans rfl, (blk_cell BK306.out 1).trans rfl, (blk_cell BK306.out 2).trans rfl, (blk_cell BK306.out 3).trans rfl, (blk_cell BK314.out 0).trans rfl, (blk_cell BK314.out 1).trans rfl, (blk_cell BK314.out 2).trans rfl, (blk_cell BK314.out 3).trans rfl⟩ (fun hHeld => ?_); clear hK K; refine norm_ (a' := ?_) ?_ ?_
    rotate_left
    ·show Act.put _ (some 99) _ = _
     simp only [Act.put, List.setIfInBounds_toArray, List.set_cons_zero, List.set_cons_succ, i64_w, i32_w]
     rfl
    refine one_ (i := 36) (N := some 101) #[true, true, true, true, true, true, true, true, true, true, true, true, true, true, true, true, true, true, true, true, true, true, true, true, true, true, true, true, true, true, true, true, true, true, true, true, true, false, false, false, false, false, false, false] rfl rfl (one_of HT_.out (by kernel_rfl)) (by decide) (fun K hK => ?_); refine goes_ Tryd.func39 (by kernel_rfl) rfl #[.agg #[.int .i64 t319, .int .u64 t320, .slice Ao58 t321.length co58, .int .i64 t324], .agg #[.int .i64 t307, .int .u64 t308, .slice Ao49 t309.length co49, .int .i64 t312]] (by rfl) rfl rfl (by (try simp only [List.map_toArray, List.map_cons, List.map_nil]); first | done | rfl | (simp only [List.length_drop, List.length_take]; rfl)) ?_
    with_reducible refine (tikref13_SameScan.calls kj6 t319 t320 _ _ t321 t324 t307 t308 _ _ t309 t312 true _ ?side1 ?side2 ?side3 ?side4 (by first | exact ⟨rfl⟩ | exact hr_) A32.out).mono ?_
    (case side1 => repeat (first | exact (Kd.N_reads' HO323.out).2.2 | (with_reducible refine Kd.C_alloc ?_ _) | (with_reducible refine Kd.C_drewN ?_ _) | (with_reducible refine Kd.C_drew ?_))); (case side2 => exact (Kd.N_reads' HO323.out).2.1); (case side3 => repeat (first | exact (Kd.N_reads' HO311.out).2.2 | (with_reducible refine Kd.C_alloc ?_ _) | (with_reducible refine Kd.C_drewN ?_ _) | (with_reducible refine Kd.C_drew ?_))); (case side4 => exact (Kd.N_reads' HO311.out).2.1); rintro e w59 ⟨rfl, hb⟩; refine ⟨_, rfl, ?_⟩; have n0_ := Aside0.mk (Kd.R_below (rx_ HO293) hb); have n1_ := Aside0.mk (Kd.R_below (rx_ HO298) hb); have n2_ := Aside0.mk (Kd.N_below (nx_ HO303) hb); have n3_ := Aside0.mk (Kd.N_below (nx_ HO311) hb); have n4_ := Aside0.mk (Kd.N_below (nx_ HO323) hb); have n5_ := Aside0.mk (blk_below (g := gb284) (o := .cells #[.int .i64 a2_0, .int .u64 a2_1] 63 (0, 0)) (bx_ BK284) hb); have n6_ := Aside0.mk (blk_below (g := gb306) (o := .cells #[.int .i64 t299, .int .u64 t300, .slice Ao43 t301.length co43, .int .i64 t304] 72 (0, 0)) (bx_ BK306) hb); have n7_ := Aside0.mk (blk_below (g := gb314) (o := .cells #[.int .i64 t307, .int .u64 t308, .slice Ao49 t309.length co49, .int .i64 t312] 77 (0, 0)) (bx_ BK314) hb); have n8_ := Aside0.mk (below_step (by repeat (first | (with_reducible first | exact HB.out | apply yA | apply yN | apply yD | refine yS ?_ GE284.out | refine yS ?_ GE306.out | refine yS ?_ GE314.out) | exact HB.out)) hb); clear HO293; clear HO298; clear HO303; clear HO311; clear HO323; clear BK284; clear BK306; clear BK314; clear HB; have HO293 := n0_; have HO298 := n1_; have HO303 := n2_; have HO311 := n3_; have HO323 := n4_; have BK284 := n5_; have BK306 := n6_; have BK314 := n7_; have HB := n8_; clear n0_ n1_ n2_ n3_ n4_ n5_ n6_ n7_ n8_; (try clear hb); (try clear hb2); (try clear hk); (try clear hi); refine hK.out _ _ ⟨(blk_cell BK306.out 0).trans rfl, (blk_cell BK306.out 1).trans rfl, (blk_cell BK306.out 2).trans rfl, (blk_cell BK306.out 3).trans rfl, (blk_cell BK314.out 0).trans rfl, (blk_cell BK314.out 1).trans rfl, (blk_cell BK314.out 2).trans rfl, (blk_cell BK314.out 3).trans rfl⟩ (fun hHeld => ?_); clear hK K; refine norm_ (a' := ?_) ?_ ?_
    rotate_left
    ·show Act.put _ (some 101) _ = _
     simp only [Act.put, List.setIfInBounds_toArray, List.set_cons_zero, List.set_cons_succ, i64_w, i32_w]
     rfl
    refine pure_ (i := 37) (N := some 102) (v := ?_) (a' := ?_) #[true, true, true, true, true, true, true, true, true, true, true, true, true, true, true, true, true, true, true, true, true, true, true, true, true, true, true, true, true, true, true, true, true, true, true, true, true, true, false, false, false, false, false, false] rfl rfl (any_of HT_.out (by kernel_rfl)) (fun _ _ _ h => h) (Or.inl ⟨by rfl, ?_⟩) ?_ ?_
    rotate_left
    ·intro w'
     go_simp
     with_reducible rfl
    rotate_left
    ·simp only [Act.put, List.setIfInBounds_toArray, List.set_cons_zero, List.set_cons_succ, i64_w, i32_w]
     rfl
    refine pure_ (i := 38) (N := some 103) (v := ?_) (a' := ?_) #[true, true, true, true, true, true, true, true, true, true, true, true, true, true, true, true, true, true, true, true, true, true, true, true, true, true, true, true, true, true, true, true, true, true, true, true, true, true, true, false, false, false, false, false] rfl rfl (any_of HT_.out (by kernel_rfl)) (fun _ _ _ h => h) (Or.inl ⟨by rfl, ?_⟩) ?_ ?_
    rotate_left
    ·intro w'
     go_simp
     with_reducible rfl
    rotate_left
    ·simp only [Act.put, List.setIfInBounds_toArray, List.set_cons_zero, List.set_cons_succ, i64_w, i32_w]
     rfl
    refine pure_ (i := 39) (N := some 104) (v := ?_) (a' := ?_) #[true, true, true, true, true, true, true, true, true, true, true, true, true, true, true, true, true, true, true, true, true, true, true, true, true, true, true, true, true, true, true, true, true, true, true, true, true, true, true, true, false, false, false, false] rfl rfl (any_of HT_.out (by kernel_rfl)) (fun _ _ _ h => h) (Or.inl ⟨by rfl, ?_⟩) ?_ ?_
    rotate_left
    ·intro w'
     go_simp
     with_reducible rfl
    rotate_left
    ·simp only [Act.put, List.setIfInBounds_toArray, List.set_cons_zero, List.set_cons_succ, i64_w, i32_w]
     rfl
    refine pure_ (i := 40) (N := some 105) (v := ?_) (a' := ?_) #[true, true, true, true, true, true, true, true, true, true, true, true, true, true, true, true, true, true, true, true, true, true, true, true, true, true, true, true, true, true, true, true, true, true, true, true, true, true, true, true, true, false, false, false] rfl rfl (any_of HT_.out (by kernel_rfl)) (fun _ _ _ h => h) (Or.inl ⟨by rfl, ?_⟩) ?_ ?_
    rotate_left
    ·intro w'
     go_simp
     with_reducible rfl
    rotate_left
    ·simp only [Act.put, List.setIfInBounds_toArray, List.set_cons_zero, List.set_cons_succ, i64_w, i32_w]
     rfl
    refine pure_ (i := 41) (N := some 106) (v := ?_) (a' := ?_) #[true, true, true, true, true, true, true, true, true, true, true, true, true, true, true, true, true, true, true, true, true, true, true, true, true, true, true, true, true, true, true, true, true, true, true, true, true, true, true, true, true, true, false, false] rfl rfl (any_of HT_.out (by kernel_rfl)) (fun _ _ _ h => h) (Or.inl ⟨by rfl, ?_⟩) ?_ ?_
    rotate_left
    ·intro w'
     go_simp
     with_reducible rfl
    rotate_left
    ·simp only [Act.put, List.setIfInBounds_toArray, List.set_cons_zero, List.set_cons_succ, i64_w, i32_w]
     rfl
    refine pure_ (i := 42) (N := some 107) (v := ?_) (a' := ?_) #[true, true, true, true, true, true, true, true, true, true, true, true, true, true, true, true, true, true, true, true, true, true, true, true, true, true, true, true, true, true, true, true, true, true, true, true, true, true, true, true, true, true, true, false] rfl rfl (any_of HT_.out (by kernel_rfl)) (fun _ _ _ h => h) (Or.inl ⟨by rfl, ?_⟩) ?_ ?_
    rotate_left
    ·intro w'
     go_simp
     with_reducible rfl
    rotate_left
    ·simp only [Act.put, List.setIfInBounds_toArray, List.set_cons_zero, List.set_cons_succ, i64_w, i32_w]
     rfl
    refine pure_ (i := 43) (N := some 8) (v := ?_) (a' := ?_) #[true, true, true, true, true, true, true, true, true, true, true, true, true, true, true, true, true, true, true, true, true, true, true, true, true, true, true, true, true, true, true, true, true, true, true, true, true, true, true, true, true, true, true, true] rfl rfl (any_of HT_.out (by kernel_rfl)) (fun _ _ _ h => h) (Or.inl ⟨by rfl, ?_⟩) ?_ ?_
    rotate_left
    ·intro w'
     go_simp
     with_reducible rfl
    rotate_left
    ·simp only [Act.put, List.setIfInBounds_toArray, List.set_cons_zero, List.set_cons_succ, i64_w, i32_w]
     rfl
    refine done_ (done_of HT_.out (by kernel_rfl)) ?_
    try go_wp2
    go_ret
    exact ⟨by first | rfl | (simp [errW_none, errW_some] <;> rfl) | (simp [*, errW_none, errW_some] <;> rfl), by repeat (first | (with_reducible first | exact HB.out | apply yA | apply yN | apply yD | refine yS ?_ GE284.out | refine yS ?_ GE306.out | refine yS ?_ GE314.out) | exact HB.out)⟩
end Go.Proofs.YtlgfmmkabnbllaaDoor.PS
namespace Go.Proofs.YtlgfmmkabnbllaaDoor.Hand
open Go.RowKit Go.Proofs.YtlgfmmkabnbllaaDoorW.PrintWords Go.Proofs.YtlgfmmkabnbllaaDoorW.PrintLast Go.Proofs.YtlgfmmkabnbllaaDoorW.PrintMore Go.Proofs.YtlgfmmkabnbllaaDoor.PA Go.Proofs.YtlgfmmkabnbllaaDoor.PS
abbrev Px := S127
def plainP (p : Pt) : Px := ⟨⟨p.f0.f0, p.f0.f1, p.f0.f2, p.f0.f3⟩, p.f1, p.f2⟩
theorem sfirst_f (k : Nat) (hk : 420 ≤ k) : tiklaw16_first.f k = some true := by
  have hM : MayH 7 3 := by decide
  have hh := header_f k (by omega) 7 3
  rw [if_pos hM] at hh
  have hO : OkFile 3 [] := ⟨by omega, by omega, fun i hi => absurd hi (by simp), fun i hi => absurd hi (by simp), fun hi => absurd hi (by simp), fun i hi => absurd hi (by simp)⟩
  have hr := read_cut (n := 7) hM hO (by simp) (k := 20) (M := 0) (by simp [hdr_len]) (by simp) (by omega) (by decide) (by simp) (by simpa [catR] using hdr_bytes 7 3) (by simp [hdr_len, catR]) k (by omega)
  have e1 : (hdrL 7 3 ++ catR []).take 20 = hdrL 7 3 := rfl
  rw [e1] at hr
  obtain ⟨j, rfl⟩ : ∃ j, k = j + 7 := ⟨k - 7, by omega⟩
  unfold tiklaw16_first.f
  rw [hh, Option.bind_some, hr, Option.bind_some, ← name7, num_name j 7 (by omega) (by omega), Option.bind_some, name_f, Option.bind_some, name7, ByteArray.toList_eq]
  rfl
theorem plain_l0 (n f g a b c : Int) (l : List Pt) (hl : l.length < 100000) : ∀ (m i : Nat), i + m = l.length → ∀ k, m + 1 ≤ k →
    tiklaw16_Plain.l0 k (i : Int) n f l g a b ((l.take i).map plainP) c = some (a, b, l.map plainP, c)
  | 0, i, hi, k, hk => by
    obtain ⟨k, rfl⟩ : ∃ j, k = j + 1 := ⟨k - 1, by omega⟩
    rw [tiklaw16_Plain.l0, if_neg (by omega), List.take_of_length_le (by omega)]
  | m + 1, i, hi, k, hk => by
    obtain ⟨k, rfl⟩ : ∃ j, k = j + 1 := ⟨k - 1, by omega⟩
    have hil : i < l.length := by omega
    have hn : wrap64 ((i : Int) + 1) = ((i + 1 : Nat) : Int) := by rw [IntWalk.wrap64_in _ (by omega)]; omega
    have hr : rd_T93 l (i : Int) = l[i] := by
      unfold rd_T93
      rw [Int.toNat_natCast, List.getD_eq_getElem?_getD, List.getElem?_eq_getElem hil]
      rfl
    have hp : ∀ a b c d, tiklaw15_Plain.f a b c d = some (a, b, c, d) := fun _ _ _ _ => rfl
    have ht : (l.take i).map plainP ++ [plainP l[i]] = (l.take (i + 1)).map plainP := by
      rw [List.take_add_one, List.getElem?_eq_getElem hil, List.map_append]
      rfl
    rw [tiklaw16_Plain.l0, if_pos (by omega), if_pos (by omega), hr, hp, Option.bind_some]
    refine (if_pos (by rw [List.length_map, List.length_take]; omega)).trans ?_
    rw [hn]
    refine Eq.trans ?_ (plain_l0 n f g a b c l hl m (i + 1) (by omega) k (by omega))
    rw [← ht]
    rfl
theorem plain_f (k : Nat) (n f g : Int) (l : List Pt) (hl : l.length < 100000) (hk : l.length + 1 ≤ k) : tiklaw16_Plain.f k n f l g = some (n, f, l.map plainP, g) := by
  unfold tiklaw16_Plain.f
  exact plain_l0 n f g n f g l hl l.length 0 (by omega) k hk
theorem same_l0 (n f g n' f' g' : Int) (l : List Px) (hl : l.length < 100000) : ∀ (m i : Nat), i + m = l.length → ∀ k, m + 1 ≤ k → tikref13_SameScan.l0 k (i : Int) n f l g n' f' l g' = some true
  | 0, i, hi, k, hk => by
    obtain ⟨k, rfl⟩ : ∃ j, k = j + 1 := ⟨k - 1, by omega⟩
    rw [tikref13_SameScan.l0, if_neg (by omega)]
  | m + 1, i, hi, k, hk => by
    obtain ⟨k, rfl⟩ : ∃ j, k = j + 1 := ⟨k - 1, by omega⟩
    have hn : wrap64 ((i : Int) + 1) = ((i + 1 : Nat) : Int) := by rw [IntWalk.wrap64_in _ (by omega)]; omega
    have hs : ∀ a b c d, tikref13_SameRecord.f a b c d a b c d = some true := fun a b c d => by
      unfold tikref13_SameRecord.f
      simp [tikref_Bytes.f]
    rw [tikref13_SameScan.l0, if_pos (by omega), if_pos (by omega), if_pos (by omega), if_pos rfl, if_pos rfl, hs, Option.bind_some, if_pos rfl, hn]
    exact same_l0 n f g n' f' g' l hl m (i + 1) (by omega) k (by omega)
theorem samescan_f (k : Nat) (n f g : Int) (l : List Px) (hl : l.length < 100000) (hk : l.length + 2 ≤ k) : tikref13_SameScan.f k n f l g n f l g = some true := by
  obtain ⟨k, rfl⟩ : ∃ j, k = j + 1 := ⟨k - 1, by omega⟩
  unfold tikref13_SameScan.f
  rw [if_pos rfl, if_pos rfl, if_pos rfl, bne_self_eq_false, tikref13_SameScan.j0, if_neg (by decide)]
  exact same_l0 n f g n f g l hl l.length 0 (by omega) k (by omega)
def lastOf (l : List Pt) : Pt := rd_T93 l ((l.length : Int) - 1)
theorem last_snoc (l : List Pt) (p : Pt) : lastOf (l ++ [p]) = p := by
  unfold lastOf rd_T93
  rw [List.length_append, List.getD_eq_getElem?_getD]
  have e : (((l.length + [p].length : Nat) : Int) - 1).toNat = l.length := by simp
  rw [e, List.getElem?_append_right (by omega)]
  simp
theorem last_map (l : List Pt) (h : 0 < l.length) : rd_T127 (l.map plainP) ((l.length : Int) - 1) = plainP (lastOf l) := by
  unfold lastOf rd_T127 rd_T93
  have hi : ((l.length : Int) - 1).toNat < l.length := by omega
  rw [List.getD_eq_getElem?_getD, List.getD_eq_getElem?_getD, List.getElem?_map, List.getElem?_eq_getElem hi]
  rfl
def nextB (f : Int) (l : List Pt) (k s t : Int) : Bool := decide (s = f + (l.length : Int) ∧ (l.length = 0 → k = 1) ∧ (0 < l.length → (lastOf l).f0.f2 ≤ t))
theorem seg_next (n f g : Int) (l : List Pt) (k s t : Int) (b : List Int) (hf : 1 ≤ f ∧ f ≤ 4611686018427387904) (hl : l.length ≤ 3000) (hq : 0 < l.length → (lastOf l).f0.f1 = f + (l.length : Int) - 1) :
    seg_Scan_next.f n f l g k s t b = some (nextB f l k s t) := by
  unfold seg_Scan_next.f nextB
  rcases Nat.eq_zero_or_pos l.length with h0 | hp
  · rw [if_pos (by omega)]
    by_cases hk : k = 1
    · rw [if_pos hk]
      congr 1
      rw [Bool.eq_iff_iff]
      simp [h0, hk]
    · rw [if_neg hk]
      congr 1
      symm
      apply decide_eq_false
      intro h
      exact hk (h.2.1 h0)
  · have hw : wrap64 ((l.length : Int) - 1) = (l.length : Int) - 1 := IntWalk.wrap64_in _ (by omega)
    have e : rd_T93 l ((l.length : Int) - 1) = lastOf l := rfl
    have hu : IntKind.u64.wrap ((lastOf l).f0.f1 + 1) = f + (l.length : Int) := by
      rw [hq hp, IntWalk.u64_in _ (by omega)]
      omega
    rw [hw, e, hu]
    refine (if_neg (by omega)).trans ((if_pos (by omega)).trans ((if_pos (by omega)).trans ?_))
    by_cases hs : s = f + (l.length : Int)
    · rw [if_pos hs]
      congr 1
      rw [Bool.eq_iff_iff]
      simp only [decide_eq_true_eq]
      exact ⟨fun h => ⟨hs, fun h0 => by omega, fun _ => h⟩, fun h => h.2.2 hp⟩
    · rw [if_neg hs]
      congr 1
      symm
      exact decide_eq_false (fun h => hs h.1)
theorem both_l0 {X : List Int} (hb : Bytes255 X) (hX : X.length ≤ 3000) (n f : Int) (hf : 1 ≤ f ∧ f ≤ 4611686018427387904) :
    ∀ (m : Nat) (p : Int) (l : List Pt), 0 ≤ p → p ≤ X.length → (X.length : Int) - p ≤ m → (l.length : Int) ≤ p → (0 < l.length → (lastOf l).f0.f1 = f + (l.length : Int) - 1) → ∀ k k', 3 * m + 4 ≤ k → 3 * m + 4 ≤ k' →
      ∃ l' g, l'.length ≤ 3000 ∧ seg_Read.l0 k X n f l p = some (n, f, l', g, 0) ∧ tikref13_ReadSeg.l0 k' X n f (l.map plainP) p = some (n, f, l'.map plainP, g, 0) := by
  intro m
  induction m with
  | zero =>
    intro p l h0 h1 hm hl hq k k' hk hk'
    obtain ⟨k, rfl⟩ : ∃ j, k = j + 1 := ⟨k - 1, by omega⟩
    obtain ⟨k', rfl⟩ : ∃ j, k' = j + 1 + 1 := ⟨k' - 2, by omega⟩
    have hd := dec_f X p hb (by omega) h0 h1
    have hd' : tikref13_DecodeRecord.f X p = some (decOut (decV X p)) := hd
    have he : ∃ x, decV X p = .error x := by
      cases hv : decV X p with
      | error x => exact ⟨x, rfl⟩
      | ok r =>
        obtain ⟨a, s, t, b, e⟩ := r
        obtain ⟨_, _, i3, i4, _⟩ := dec_inv hb h0 hv
        have : 7 ≤ (encL a s t b).length := by rw [enc_len]; omega
        omega
    obtain ⟨x, hx⟩ := he
    have hne := dec_err_ne hx
    rw [hx] at hd hd'
    refine ⟨l, p, by omega, ?_, ?_⟩
    · rw [seg_Read.l0, hd, Option.bind_some]
      exact if_neg hne
    · rw [tikref13_ReadSeg.l0, hd', Option.bind_some]
      refine (if_neg hne).trans ?_
      rw [tikref13_ReadSeg.j2, if_pos rfl]
  | succ m ih =>
    intro p l h0 h1 hm hl hq k k' hk hk'
    obtain ⟨k, rfl⟩ : ∃ j, k = j + 1 := ⟨k - 1, by omega⟩
    obtain ⟨k', rfl⟩ : ∃ j, k' = j + 1 + 1 + 1 := ⟨k' - 3, by omega⟩
    have hd := dec_f X p hb (by omega) h0 h1
    have hd' : tikref13_DecodeRecord.f X p = some (decOut (decV X p)) := hd
    cases hv : decV X p with
    | error x =>
      have hne := dec_err_ne hv
      rw [hv] at hd hd'
      refine ⟨l, p, by omega, ?_, ?_⟩
      · rw [seg_Read.l0, hd, Option.bind_some]
        exact if_neg hne
      · rw [tikref13_ReadSeg.l0, hd', Option.bind_some]
        refine (if_neg hne).trans ?_
        rw [tikref13_ReadSeg.j2, if_pos rfl]
    | ok r =>
      obtain ⟨a, s, t, b, e⟩ := r
      obtain ⟨_, i2, i3, i4, _⟩ := dec_inv hb h0 hv
      have h7 : 7 ≤ (encL a s t b).length := by rw [enc_len]; omega
      rw [hv] at hd hd'
      have hnx := seg_next n f p l a s t b hf (by omega) hq
      have hw : IntKind.u64.wrap (f + IntKind.u64.wrap (l.length : Int)) = f + (l.length : Int) := by rw [IntWalk.u64_in (l.length : Int) (by omega), IntWalk.u64_in _ (by omega)]
      have hlm : ((l.map plainP).length : Int) = (l.length : Int) := by rw [List.length_map]
      cases hB : nextB f l a s t
      ·
        rw [hB] at hnx
        have hno : ¬ (s = f + (l.length : Int) ∧ (l.length = 0 → a = 1) ∧ (0 < l.length → (lastOf l).f0.f2 ≤ t)) := of_decide_eq_false hB
        refine ⟨l, p, by omega, ?_, ?_⟩
        · rw [seg_Read.l0, hd, Option.bind_some]
          refine (if_pos rfl).trans ?_
          dsimp only [decOut]
          rw [hnx, Option.bind_some]
          exact if_neg (by decide)
        · rw [tikref13_ReadSeg.l0, hd', Option.bind_some]
          refine (if_pos rfl).trans ?_
          dsimp only [decOut]
          rw [hlm, hw, tikref13_ReadSeg.j2]
          by_cases hs : s = f + (l.length : Int)
          case neg => rw [show (s != f + (l.length : Int)) = true by simpa using hs, if_pos rfl]
          rw [show (s != f + (l.length : Int)) = false by simpa using hs, if_neg (by decide), hlm]
          rcases Nat.eq_zero_or_pos l.length with hz | hp
          · have ha : ¬ a = 1 := fun h => hno ⟨hs, fun _ => h, fun h => by omega⟩
            rw [if_pos (by omega), if_neg ha, tikref13_ReadSeg.j3, if_pos rfl]
          · have hw1 : wrap64 ((l.length : Int) - 1) = (l.length : Int) - 1 := IntWalk.wrap64_in _ (by omega)
            have ht : t < (lastOf l).f0.f2 := Int.not_le.1 fun h => hno ⟨hs, fun h => by omega, fun _ => h⟩
            rw [hw1, last_map l hp]
            refine (if_neg (by omega)).trans ((if_pos (by omega)).trans ((if_pos (by omega)).trans ((if_pos (by omega)).trans ?_)))
            have e1 : (plainP (lastOf l)).f0.f2 = (lastOf l).f0.f2 := rfl
            rw [e1, decide_eq_true ht, tikref13_ReadSeg.j3, if_pos rfl]
      ·
        rw [hB] at hnx
        obtain ⟨hs, hk1, ht⟩ : s = f + (l.length : Int) ∧ (l.length = 0 → a = 1) ∧ (0 < l.length → (lastOf l).f0.f2 ≤ t) := of_decide_eq_true hB
        obtain ⟨q, hqd⟩ : ∃ q : Pt, q = ⟨⟨a, s, t, b⟩, p, e⟩ := ⟨_, rfl⟩
        have hmap : l.map plainP ++ [plainP q] = (l ++ [q]).map plainP := by simp
        obtain ⟨l', g, j0, j1, j2⟩ := ih e (l ++ [q]) (by omega) (by omega) (by omega) (by rw [List.length_append]; simp; omega) (fun _ => by rw [last_snoc, hqd, List.length_append]; show s = _; simp; omega) k k' (by omega) (by omega)
        refine ⟨l', g, j0, ?_, ?_⟩
        · rw [seg_Read.l0, hd, Option.bind_some]
          refine (if_pos rfl).trans ?_
          dsimp only [decOut]
          rw [hnx, Option.bind_some]
          refine (if_pos rfl).trans ((if_pos (by omega)).trans ?_)
          rw [← hqd]
          exact j1
        · rw [tikref13_ReadSeg.l0, hd', Option.bind_some]
          refine (if_pos rfl).trans ?_
          dsimp only [decOut]
          rw [hlm, hw, tikref13_ReadSeg.j2, show (s != f + (l.length : Int)) = false by simpa using hs, if_neg (by decide), hlm]
          have hj3 : tikref13_ReadSeg.j3 (k' + 1) X e false n f (l.map plainP) p a s t b = some (n, f, l'.map plainP, g, 0) := by
            rw [tikref13_ReadSeg.j3, if_neg (by decide)]
            refine (if_pos (by rw [List.length_map]; omega)).trans ?_
            have e2 : l.map plainP ++ [(⟨⟨a, s, t, b⟩, p, e⟩ : Px)] = (l ++ [q]).map plainP := by rw [← hmap, hqd]; rfl
            rw [e2]
            exact j2
          rcases Nat.eq_zero_or_pos l.length with hz | hp
          · rw [if_pos (by omega), if_pos (hk1 hz), if_neg (by omega)]
            exact hj3
          · have hw1 : wrap64 ((l.length : Int) - 1) = (l.length : Int) - 1 := IntWalk.wrap64_in _ (by omega)
            rw [hw1, last_map l hp]
            refine (if_neg (by omega)).trans ((if_pos (by omega)).trans ((if_pos (by omega)).trans ((if_pos (by omega)).trans ?_)))
            have e1 : (plainP (lastOf l)).f0.f2 = (lastOf l).f0.f2 := rfl
            rw [e1, decide_eq_false (Int.not_lt.2 (ht hp))]
            exact hj3
theorem both_f {X : List Int} (hb : Bytes255 X) (hX : X.length ≤ 3000) (k : Nat) (hk : 15000 ≤ k) :
    ∃ n f l g e, l.length ≤ 3000 ∧ seg_Read.f k X = some (n, f, l, g, e) ∧ tikref13_ReadSeg.f k X = some (n, f, l.map plainP, g, e) := by
  obtain ⟨k, rfl⟩ : ∃ j, k = j + 1 := ⟨k - 1, by omega⟩
  by_cases h20 : (X.length : Int) < 20
  · refine ⟨0, 0, [], 0, 2, by simp, ?_, ?_⟩
    · unfold seg_Read.f
      rw [head_short _ _ (by omega), Option.bind_some]
      exact if_neg (by decide)
    · unfold tikref13_ReadSeg.f
      exact if_pos h20
  have b1 : Bytes255 ((X.take 8).drop 4) := fun x hx => hb x (List.mem_of_mem_take (List.mem_of_mem_drop hx))
  have b2 : Bytes255 ((X.take 16).drop 8) := fun x hx => hb x (List.mem_of_mem_take (List.mem_of_mem_drop hx))
  have l1 : ((X.take 8).drop 4).length ≤ 8 := by rw [List.length_drop, List.length_take]; omega
  have l2 : ((X.take 16).drop 8).length ≤ 8 := by rw [List.length_drop, List.length_take]; omega
  have n1 := number_f (k + 1) (by omega) _ b1 l1
  have n2 := number_f (k + 1) (by omega) _ b2 l2
  have r1 := rbig_f (k + 1) (by omega) _ b1 l1
  have r2 := rbig_f (k + 1) (by omega) _ b2 l2
  obtain ⟨W, hW⟩ : ∃ W, W = wrap64 (valL 0 ((X.take 8).drop 4)) := ⟨_, rfl⟩
  obtain ⟨F, hF⟩ : ∃ F, F = valL 0 ((X.take 16).drop 8) := ⟨_, rfl⟩
  have hd1 := header_f (k + 1) (by omega) W F
  have hd2 := rheader_f (k + 1) (by omega) W F
  have hs : seg_head.f (k + 1) X = (seg_Header.f (k + 1) W F).bind fun bt140 => (if bt140.2 = 0 then (if 20 ≤ (X.length : Int) then ((bytes_Equal.f bt140.1 (X.take 20)).bind fun t145 => (if t145 = true then (some (W, F, 0)) else (some (0, 0, 2)))) else (none)) else (some (0, 0, 2))) := by
    unfold seg_head.f
    rw [if_neg h20, if_pos (by decide), if_pos (by omega), n1, Option.bind_some, if_pos (by decide), if_pos (by omega), n2, Option.bind_some, ← hW, ← hF]
  have hr : tikref13_ReadSeg.f (k + 1) X = (tikref13_Header.f (k + 1) W F).bind fun bt220 => (if bt220.2 = 0 then (if 20 ≤ (X.length : Int) then ((tikref_Bytes.f bt220.1 (X.take 20)).bind fun t225 => (tikref13_ReadSeg.j0 (k + 1) X (!t225) W F 20)) else (none)) else (tikref13_ReadSeg.j0 (k + 1) X true W F 20)) := by
    unfold tikref13_ReadSeg.f
    rw [if_neg h20, if_pos (by decide), if_pos (by omega), r1, Option.bind_some, if_pos (by decide), if_pos (by omega), r2, Option.bind_some, ← hW, ← hF]
  have hjt : tikref13_ReadSeg.j0 (k + 1) X true W F 20 = some (0, 0, [], 0, 2) := by rw [tikref13_ReadSeg.j0, if_pos rfl]
  by_cases hM : MayH W F
  case neg =>
    rw [if_neg hM] at hd1 hd2
    refine ⟨0, 0, [], 0, 2, by simp, ?_, ?_⟩
    · unfold seg_Read.f
      rw [hs, hd1, Option.bind_some]
      rfl
    · rw [hr, hd2, Option.bind_some]
      refine (if_neg (by decide)).trans ?_
      exact hjt
  rw [if_pos hM] at hd1 hd2
  have be : bytes_Equal.f (hdrL W F) (X.take 20) = some (decide (hdrL W F = X.take 20)) := congrArg some (equal_bytes (hdr_bytes W F) (front_bytes hb 20))
  have br := bytes_f (hdr_bytes W F) (front_bytes hb 20)
  by_cases hq : hdrL W F = X.take 20
  case neg =>
    rw [decide_eq_false hq] at be br
    refine ⟨0, 0, [], 0, 2, by simp, ?_, ?_⟩
    · unfold seg_Read.f
      rw [hs, hd1, Option.bind_some]
      dsimp only
      rw [if_pos rfl, if_pos (by omega), be, Option.bind_some]
      rfl
    · rw [hr, hd2, Option.bind_some]
      dsimp only
      rw [if_pos rfl, if_pos (by omega), br, Option.bind_some]
      exact hjt
  rw [decide_eq_true hq] at be br
  obtain ⟨l', g, j0, j1, j2⟩ := both_l0 hb hX W F ⟨hM.2.2.1, hM.2.2.2⟩ X.length 20 [] (by omega) (by omega) (by omega) (by simp) (fun h => absurd h (by simp)) (k + 1) k (by omega) (by omega)
  refine ⟨W, F, l', g, 0, j0, ?_, ?_⟩
  · unfold seg_Read.f
    rw [hs, hd1, Option.bind_some]
    dsimp only
    rw [if_pos rfl, if_pos (by omega), be, Option.bind_some, if_pos rfl, Option.bind_some]
    exact (if_pos rfl).trans j1
  · rw [hr, hd2, Option.bind_some]
    dsimp only
    rw [if_pos rfl, if_pos (by omega), br, Option.bind_some, tikref13_ReadSeg.j0]
    exact (if_neg (by decide)).trans j2
theorem segTells_any (a0 : Int) (s : ByteArray) (n f : Int) (X : List Int) (hb : Bytes255 X) : tiklaw16_SegTells.f 20000 a0 s n f X = some true := by
  have ht : tiklaw16_SegTells.j0 20000 a0 s X true n f = some true := by
    rw [show (20000 : Nat) = 19999 + 1 from rfl, tiklaw16_SegTells.j0, if_pos rfl, sfirst_f _ (by omega), Option.bind_some]
  unfold tiklaw16_SegTells.f
  rw [sfirst_f _ (by omega), Option.bind_some, if_pos rfl]
  by_cases hX : (X.length : Int) > 3000
  · rw [if_pos hX]; exact ht
  rw [if_neg hX]
  by_cases hs : (s.size : Int) > 3000
  · rw [decide_eq_true hs]; exact ht
  obtain ⟨x, y, b, e1, e2, e3⟩ := both_num 19999 (by omega) s
  obtain ⟨n', f', l, g, e, j0, j1, j2⟩ := both_f hb (by omega) 19999 (by omega)
  have h1 := header_f 19999 (by omega) n f
  have h2 := rheader_f 19999 (by omega) n f
  have hp := plain_f 19999 n' f' g l (by omega) (by omega)
  have hsc := samescan_f 19999 n' f' g (l.map plainP) (by rw [List.length_map]; omega) (by rw [List.length_map]; omega)
  rw [decide_eq_false hs, show (20000 : Nat) = 19999 + 1 from rfl, tiklaw16_SegTells.j0, if_neg (by decide)]
  rw [e1, Option.bind_some, e2, Option.bind_some, h1, Option.bind_some, h2, Option.bind_some, j1, Option.bind_some, j2, Option.bind_some, sfirst_f _ (by omega), Option.bind_some, if_pos rfl, name_f, Option.bind_some, rname_f _ (by omega), Option.bind_some, if_pos rfl]
  have hB : ∀ h, tikref_Bytes.f h h = some true := bytes_same
  dsimp only
  rw [if_pos (by simp)]
  cases b
  · rw [if_neg (by decide), hB, Option.bind_some, if_pos rfl, if_pos rfl, hp, Option.bind_some]
    dsimp only
    rw [hsc, Option.bind_some, if_pos rfl]
    simp
  · rw [if_pos rfl, if_pos (e3 rfl), hB, Option.bind_some, if_pos rfl, if_pos rfl, hp, Option.bind_some]
    dsimp only
    rw [hsc, Option.bind_some, if_pos rfl]
    simp
end Go.Proofs.YtlgfmmkabnbllaaDoor.Hand
namespace Go.Proofs.YtlgfmmkabnbllaaDoor.RowSegTells
open Go.ChangeShapes Go.WideShapes Go.ChangeAt Go.RowKit
open Go.ChangeMaps (open_string shut_string)
open Go.Proofs.YtlgfmmkabnbllaaDoorW.PrintWords Go.Proofs.YtlgfmmkabnbllaaDoor.Opens
open Go.Proofs.YtlgfmmkabnbllaaDoor.Hand
open Go.Proofs.YtlgfmmkabnbllaaDoor.PS
open Go.Proofs.YtlgfmmkabnbllaaDoor
set_option linter.unusedVariables false
set_option linter.unusedSimpArgs false
theorem ownK : ownKnob Tryd.prog.godebug = none := by kernel_rfl
theorem laidOut : laidOutB Tryd.prog = true := by kernel_rfl
abbrev laid2 : List (String × DataW Unit) := [("math/bits.deBruijn32tab", Rows.laid_math_bits_deBruijn32tab), ("math/bits.deBruijn64tab", Rows.laid_math_bits_deBruijn64tab), ("internal/strconv.uint64pow10", Rows.laid_internal_strconv_uint64pow10)]
set_option maxRecDepth 100000 in
theorem door_met (os : Os) (args : Array Value) : laidMetH Tryd.prog laid2 ((World.doorLaid Tryd.prog 400 os).forCall (fun _ _ => 0) ⟨#[], args, []⟩).memory :=
  laidMetH_of_parts3 (fuel := 8) (laidMet_of_run' 8 (by kernel_rfl) (by kernel_rfl)) (by kernel_rfl) (by kernel_rfl)
set_option maxRecDepth 100000 in
theorem lifted (os : Os) (started : os.Started) (H : Type) (enc : TypeId × Value → H) :
    ReturnsInHanded {} Tryd.checked os 8 .any (fun w args => (Rows.segTellsSpec.pre enc Tryd.prog Tryd.f8 [] false w args ∧ laidMetH Tryd.prog laid2 w) ∧ sizedMet enc Tryd.prog Tryd.f8 (OpenSpec.ofChange Rows.segTellsSpec) false w args)
      (Rows.segTellsSpec.post enc Tryd.prog Tryd.f8 false true false false) := by
  refine returnsInHanded_of_change_and (C := Tryd.checked) (X := fun w _ => laidMetH Tryd.prog laid2 w) (fun _ _ _ hh h => h.of_heap hh) ownK started (by kernel_rfl) Tryd.func8
    (ChangeSpec.witness_shaped (enc := enc) (C := Tryd.checked) (os := os) (X := fun w _ => laidMetH Tryd.prog laid2 w) false (World.doorLaid Tryd.prog 400 os) #[.int .i64 0, .string ByteArray.empty, .agg #[.int .i64 0, .int .u64 0], .slice none 0 0] 8 rfl (World.shaped_of_RefB (by kernel_rfl) (by kernel_rfl)) (by kernel_rfl) (by kernel_rfl) (by kernel_rfl) (door_met os _)) ?_
  intro W base args ds gs before hval0 hW _ hsz0 hT _
  have hsz : (DataW.weightsEach Tryd.prog (Tryd.f8.params.toList ++ Rows.segTellsSpec.plain.varTypes Tryd.prog) (ds ++ gs)).all (· ≤ reachBytes) = true := hsz0
  have hval : ∀ (j : Nat) t v, Tryd.f8.params[j]? = some t → args[j]? = some v → Value.okWide Tryd.prog W .any base t v := hval0
  have hW' := hW
  obtain ⟨p, q, hA0, hV, rfl, hfz, hnd⟩ := hW
  have hA : DataW.TrodAll enc Tryd.prog W 0 (fun _ => true) true Tryd.f8.params.toList args.toList ds p := hA0
  rw [Tryd.params8] at hA hval hsz
  obtain ⟨v0, vs0, d0, ds0, p0, q0, hargs, rfl, rfl, h0, r0⟩ := trodAll_cons hA
  obtain ⟨v1, vs1, d1, ds1, p1, q1, rfl, rfl, rfl, h1, r1⟩ := trodAll_cons r0
  obtain ⟨v2, vs2, d2, ds2, p2, q2, rfl, rfl, rfl, h2, r2⟩ := trodAll_cons r1
  obtain ⟨v3, vs3, d3, ds3, p3, q3, rfl, rfl, rfl, h3, r3⟩ := trodAll_cons r2
  obtain ⟨rfl, rfl, rfl⟩ := trodAll_nil r3
  obtain rfl : args = #[v0, v1, v2, v3] := by cases args; simp_all
  obtain ⟨rfl, rfl⟩ := trodVars_none hV
  obtain ⟨a0, rfl, rfl, rfl, w0⟩ := open_int Tryd.underlying3 (hval 0 3 v0 rfl rfl) h0
  obtain ⟨a1, rfl, rfl, rfl, y1⟩ := open_string Tryd.underlying9 (hval 1 9 v1 rfl rfl) h1
  have w1 : a1.size ≤ 140737488351232 := by
    have z := sized_string hsz (j := 1) (t := 9) rfl rfl
    rw [Array.length_toList] at z
    exact z
  have k2 := h2
  have lt2 : ∀ x ∈ p2, x.block < W.heap.size := by obtain ⟨m, hm⟩ := k2; exact DataW.trod_lt m _ _ _ hm
  obtain ⟨⟨c2_0, c2_1⟩, ⟨_, _, gc2_0, fc2_0, fc2_1⟩, u2⟩ := open_arg (o_struct Tryd.underlying63 (by kernel_rfl) (f_cons rfl (by kernel_rfl) (o_int Tryd.underlying3) (f_last rfl (by kernel_rfl) (o_int Tryd.underlying28)))) h2
  have e2 : v2.cells.toList = _ := gc2_0
  simp only [Kd.int, Kd.bool, Kd.string, kFloat, Kd.scalar] at fc2_0 fc2_1
  simp only [fc2_0, fc2_1, List.cons_append, List.nil_append] at e2
  have e2' := agg_of Tryd.underlying63 (hval 2 63 v2 rfl rfl) e2
  subst e2'
  have k3 := h3
  have lt3 : ∀ x ∈ p3, x.block < W.heap.size := by obtain ⟨m, hm⟩ := k3; exact DataW.trod_lt m _ _ _ hm
  obtain ⟨l3, ⟨A3, c3, e3, hc3, hC3⟩, q3⟩ := open_arg (o_slice Tryd.underlying64 (by kernel_rfl) (o_int Tryd.underlying5)) h3
  obtain ⟨_, _, _, z3⟩ := okWide_slice Tryd.underlying64 (hval 3 64 v3 rfl rfl)
  obtain rfl : v3 = .slice A3 l3.length c3 := by subst z3; simpa [Value.cells] using e3
  have y3 := sized_any hsz (j := 3) (t := 64) rfl rfl Tryd.underlying64 h3
  clear hA0 hval0
  refine (tiklaw16_SegTells.calls 20000 a0 a1 c2_0 c2_1 A3 c3 l3 true W hC3 hc3 (tabI_of hT) ⟨rfl⟩ (segTells_any a0 a1 c2_0 c2_1 l3 (fun x hx => by have := bounds_u8 (q3.2 x hx); omega))).mono fun e W' ⟨he, bel⟩ => ?_
  subst he
  exact ⟨_, rfl, _, _, _, [], _, [], hW', trodAll_mk1 (shut_bool Tryd.underlying4 _), (trodAll_cons_mk (shut_int Tryd.underlying3 w0) (trodAll_cons_mk (shut_string Tryd.underlying9 y1) (trodAll_cons_mk (Below.trod laidOut (by kernel_rfl) (of_decide_eq_true (by kernel_rfl)) k2 bel lt2) (trodAll_cons_mk (Below.trod laidOut (by kernel_rfl) (of_decide_eq_true (by kernel_rfl)) k3 bel lt3) trodAll_mk0)))), rfl, bel.frame _, fun h => by cases h⟩
theorem over : Rows.segTellsRow.holds Tryd.pinned (OpenSpec.ofChange Rows.segTellsSpec) :=
  OpenClaim.holds_of_wide 8 Tryd.f8 rfl rfl rfl rfl rfl rfl rfl ⟨rfl, rfl, rfl, rfl, rfl⟩ rfl rfl rfl rfl rfl (by kernel_rfl) Tryd.func8 (by kernel_rfl)
    (of_decide_eq_true (by kernel_rfl)) (by unfold Func.isWrapper; first | (rw [if_pos (by decide +kernel)]; kernel_rfl) | (rw [if_neg (by decide +kernel)]; exact ⟨rfl, rfl⟩))
    (fun os started H enc _ => lifted os started H enc)
theorem card : Rows.SegTellsCardSaid :=
  Claim7.holds_tied_plain_at .later [] [.data, .data, .data] true (true, "f4cce56c052b8147ed0d96dfe40f3886e39b5e64f551fd0da9ae368612f96104") true
    over (fun _ h => by cases h) (by kernel_rfl) (fun _ h => by cases h) segTells_row_tie rfl ⟨rfl, rfl⟩ (by kernel_rfl) rfl
    (fun f fn hf hfn => by
      obtain rfl : f = 8 := Option.some.inj ((show Tryd.prog.funcNamed "tickertape/tiklaw16.SegTells" = some 8 by kernel_rfl).symm.trans hf) |>.symm
      obtain rfl : fn = Tryd.f8 := (Option.some.inj (Tryd.func8.symm.trans hfn)).symm
      exact ⟨by kernel_rfl, fun j t ht => by
        rw [Tryd.params8] at ht
        have hm : t ∈ [3, 9, 63, 64] := by simpa using Array.mem_of_getElem? ht
        have hall : ([3, 9, 63, 64].all fun u => !Tryd.prog.wantsStandIn u) = true := by kernel_rfl
        exact (show Tryd.prog.wantsStandIn t = false by simpa using List.all_eq_true.1 hall t hm)⟩)
    (by kernel_rfl)
#print axioms card
end Go.Proofs.YtlgfmmkabnbllaaDoor.RowSegTells
namespace Go.Proofs.YtlgfmmkabnbllaaDoor
theorem segTells_holds : Rows.SegTellsCardSaid := RowSegTells.card
end Go.Proofs.YtlgfmmkabnbllaaDoor
