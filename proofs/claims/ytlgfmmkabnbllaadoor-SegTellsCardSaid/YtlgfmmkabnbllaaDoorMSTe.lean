/- Texts of this claim, put together. -/
import Derived.Test.YtlgfmmkabnbllaaDoorMSTb
import Derived.Test.YtlgfmmkabnbllaaDoorMSTd
set_option linter.unusedVariables false
set_option linter.unusedSimpArgs false
namespace Go.Proofs.YtlgfmmkabnbllaaDoor.PS
open Go.RowKit Go.Proofs.YtlgfmmkabnbllaaDoorW.PrintWords Go.Proofs.YtlgfmmkabnbllaaDoorW.PrintLast Go.Proofs.YtlgfmmkabnbllaaDoorW.PrintMore
attribute [local go_sem] max2_int min2_int max_two min_two max_three min_three max_four min_four
open Go.Proofs.YtlgfmmkabnbllaaDoor.Hand
open Go.Proofs.YtlgfmmkabnbllaaDoor.PA
set_option linter.unusedVariables false
set_option linter.unusedSimpArgs false
mutual
def tikref13_ReadSeg.j0 : Nat → List Int → Bool → Int → Int → Int → Option (Int × Int × (List (S127)) × Int × Int)
 | 0, _, _, _, _, _ => none
 | k + 1, x0, x38, x220000, x220001, x220003 => if x38 = true then (some (0, 0, ([] : List (S127)), 0, 2)) else (tikref13_ReadSeg.l0 k x0 x220000 x220001 ([] : List (S127)) x220003)
def tikref13_ReadSeg.l0 : Nat → List Int → Int → Int → List (S127) → Int → Option (Int × Int × (List (S127)) × Int × Int)
 | 0, _, _, _, _, _ => none
 | k + 1, x0, x220000, x220001, x220002, x220003 => (tikref13_DecodeRecord.f x0 x220003).bind fun bt226 => (if bt226.2.2.2.2.2 = 0 then (tikref13_ReadSeg.j2 k x0 bt226.2.2.2.2.1 (bt226.2.1 != (IntKind.u64.wrap (x220001 + (IntKind.u64.wrap ((x220002.length : Int)))))) x220000 x220001 x220002 x220003 bt226.1 bt226.2.1 bt226.2.2.1 bt226.2.2.2.1) else (tikref13_ReadSeg.j2 k x0 bt226.2.2.2.2.1 true x220000 x220001 x220002 x220003 bt226.1 bt226.2.1 bt226.2.2.1 bt226.2.2.2.1))
def tikref13_ReadSeg.j2 : Nat → List Int → Int → Bool → Int → Int → List (S127) → Int → Int → Int → Int → List Int → Option (Int × Int × (List (S127)) × Int × Int)
 | 0, _, _, _, _, _, _, _, _, _, _, _ => none
 | k + 1, x0, x8, x61, x220000, x220001, x220002, x220003, x235000, x235001, x235002, x235003 => if x61 = true then (some (x220000, x220001, x220002, x220003, 0)) else (if (x220002.length : Int) = 0 then (if x235000 = 1 then (if (x220002.length : Int) > 0 then (if 0 ≤ (wrap64 ((x220002.length : Int) - 1)) then (if (wrap64 ((x220002.length : Int) - 1)) < (x220002.length : Int) then (tikref13_ReadSeg.j3 k x0 x8 (decide (x235002 < ((rd_T127 x220002 (wrap64 ((x220002.length : Int) - 1))).f0.f2))) x220000 x220001 x220002 x220003 x235000 x235001 x235002 x235003) else (none)) else (none)) else (tikref13_ReadSeg.j3 k x0 x8 false x220000 x220001 x220002 x220003 x235000 x235001 x235002 x235003)) else (tikref13_ReadSeg.j3 k x0 x8 true x220000 x220001 x220002 x220003 x235000 x235001 x235002 x235003)) else (if (x220002.length : Int) > 0 then (if 0 ≤ (wrap64 ((x220002.length : Int) - 1)) then (if (wrap64 ((x220002.length : Int) - 1)) < (x220002.length : Int) then (tikref13_ReadSeg.j3 k x0 x8 (decide (x235002 < ((rd_T127 x220002 (wrap64 ((x220002.length : Int) - 1))).f0.f2))) x220000 x220001 x220002 x220003 x235000 x235001 x235002 x235003) else (none)) else (none)) else (tikref13_ReadSeg.j3 k x0 x8 false x220000 x220001 x220002 x220003 x235000 x235001 x235002 x235003)))
def tikref13_ReadSeg.j3 : Nat → List Int → Int → Bool → Int → Int → List (S127) → Int → Int → Int → Int → List Int → Option (Int × Int × (List (S127)) × Int × Int)
 | 0, _, _, _, _, _, _, _, _, _, _, _ => none
 | k + 1, x0, x8, x92, x220000, x220001, x220002, x220003, x235000, x235001, x235002, x235003 => if x92 = true then (some (x220000, x220001, x220002, x220003, 0)) else (if x220002.length < 2199023255552 then (tikref13_ReadSeg.l0 k x0 x220000 x220001 (x220002 ++ [(⟨(⟨x235000, x235001, x235002, x235003⟩ : S123), x220003, x8⟩ : S127)]) x8) else (none))
end
def tikref13_ReadSeg.f (k : Nat) (l0 : List Int) : Option (Int × Int × (List (S127)) × Int × Int) := if (l0.length : Int) < 20 then (some (0, 0, ([] : List (S127)), 0, 2)) else (if 4 ≤ 8 then (if 8 ≤ (l0.length : Int) then ((tikref2_Big.f k ((l0.take 8).drop 4)).bind fun t216 => (if 8 ≤ 16 then (if 16 ≤ (l0.length : Int) then ((tikref2_Big.f k ((l0.take 16).drop 8)).bind fun t218 => ((tikref13_Header.f k (wrap64 (t216)) t218).bind fun bt220 => (if bt220.2 = 0 then (if 20 ≤ (l0.length : Int) then ((tikref_Bytes.f bt220.1 (l0.take 20)).bind fun t225 => (tikref13_ReadSeg.j0 k l0 (!t225) (wrap64 (t216)) t218 20)) else (none)) else (tikref13_ReadSeg.j0 k l0 true (wrap64 (t216)) t218 20)))) else (none)) else (none))) else (none)) else (none))
def tikref13_ReadSeg.T3 : Bool × List (List Nat × List Nat) := (true, [([], []), ([0], [0]), ([1], [1]), ([2], [2]), ([], []), ([4], [4]), ([5, 2], [5]), ([3, 6], [3, 6]), ([], []), ([8, 7, 6, 0, 1, 2, 3, 4, 5, 6, 7, 8], [7, 8])])
def tikref13_ReadSeg.B3 : List Nat := [0, 1, 3, 7, 0, 16, 55, 127, 0, 511]
theorem tikref13_ReadSeg.tab3 : rtab .any (opsOf Tryd.f35 3) = tikref13_ReadSeg.T3 := by kernel_rfl
theorem tikref13_ReadSeg.bits3 : waitsOk tikref13_ReadSeg.T3.2 tikref13_ReadSeg.B3 = true := by kernel_rfl
def tikref13_ReadSeg.T10 : Bool × List (List Nat × List Nat) := (true, [([], []), ([0], [0]), ([1], [1]), ([2], [2]), ([3], [3]), ([4], [4]), ([5, 4], [4, 5]), ([6, 4], [4, 6]), ([4, 7], [4, 7]), ([8, 4], [8]), ([9], [9]), ([10, 9], [9, 10]), ([11, 9], [9, 11]), ([12, 9], [9, 12]), ([13, 9, 9], [9, 13]), ([14], [14]), ([15, 14], [14, 15]), ([14], [14]), ([17, 14], [14, 17]), ([14], [14]), ([19, 14], [14, 19]), ([20, 14], [14, 20]), ([21, 14], [14, 21]), ([18, 22, 14], [14, 18, 22]), ([23, 14], [14, 23]), ([24, 14], [14, 24]), ([25, 14], [14, 25]), ([16, 26, 14], [14, 16, 26]), ([14, 27, 9], [9, 14, 27]), ([9, 28], [9, 28])])
def tikref13_ReadSeg.B10 : List Nat := [0, 1, 3, 7, 15, 31, 63, 127, 255, 511, 1023, 2047, 4095, 8191, 16383, 32767, 65535, 32767, 163839, 32767, 557055, 1605631, 3702783, 8290303, 16678911, 33456127, 67010559, 134217727, 268435455, 536870911]
theorem tikref13_ReadSeg.tab10 : rtab .any (opsOf Tryd.f35 10) = tikref13_ReadSeg.T10 := by kernel_rfl
theorem tikref13_ReadSeg.bits10 : waitsOk tikref13_ReadSeg.T10.2 tikref13_ReadSeg.B10 = true := by kernel_rfl
set_option maxHeartbeats 40000000 in
set_option maxRecDepth 100000 in
theorem tikref13_ReadSeg.calls (k : Nat) (A0 : Option Addr) (c0 : Nat) (l0 : List Int) (r1 : Int) (r2 : Int) (r3 : List (S127)) (r4 : Int) (r5 : Int) (w : World) (hr0 : Kd.C (Kd.int .u8) w A0 l0.length l0) (hc0 : l0.length ≤ c0) (h : tikref13_ReadSeg.f k l0 = some (r1, r2, r3, r4, r5)) :
  Calls Tryd.prog 35 #[.slice A0 l0.length c0] w fun e w' => ∃ v2_ : Value, e = .returned (.tuple #[.agg #[.int .i64 r1, .int .u64 r2, v2_, .int .i64 r4], .int .i64 r5]) ∧ Kd.S k127 127 w' w.heap.size (fun _ => True) v2_ r3 ∧ Below w.heap.size w w' := by
 have hu77 := Tryd.underlying77; have hu123 := Tryd.underlying123; have hu127 := Tryd.underlying127; have HR0 := Aside0.mk hr0; have HC0 := Aside0.mk hc0; clear hr0 hc0; have HB := Aside0.mk (Below.refl w.heap.size w); have H : (if (l0.length : Int) < 20 then (some (0, 0, ([] : List (S127)), 0, 2)) else (if 4 ≤ 8 then (if 8 ≤ (l0.length : Int) then ((tikref2_Big.f k ((l0.take 8).drop 4)).bind fun t216 => (if 8 ≤ 16 then (if 16 ≤ (l0.length : Int) then ((tikref2_Big.f k ((l0.take 16).drop 8)).bind fun t218 => ((tikref13_Header.f k (wrap64 (t216)) t218).bind fun bt220 => (if bt220.2 = 0 then (if 20 ≤ (l0.length : Int) then ((tikref_Bytes.f bt220.1 (l0.take 20)).bind fun t225 => (tikref13_ReadSeg.j0 k l0 (!t225) (wrap64 (t216)) t218 20)) else (none)) else (tikref13_ReadSeg.j0 k l0 true (wrap64 (t216)) t218 20)))) else (none)) else (none))) else (none)) else (none))) = some (r1, r2, r3, r4, r5) := h; clear h
 by_cases c2 : (l0.length : Int) < 20
 ·rw [if_pos c2] at H
  have c2b0 : decide ((l0.length : Int) < 20) = true := decide_eq_true c2; have c2b1 : decide (l0.length < 20) = true := decide_eq_true (by omega); clear c2; (simp only [Option.some.injEq, Prod.mk.injEq] at H); obtain ⟨rfl, rfl, rfl, rfl, rfl⟩ := H
  go_enter Tryd.func35, Tryd.ntmps35
  go_wp2_with (first | ((with_reducible refine gate_dst (N := 2) rfl ?_); (try (refine gate_guard (by rfl) ?_; dsimp only)); refine box_event ?hg (N := 2) ?hd (cs := #[.int .i64 0, .int .u64 0, .slice none 0 0, .int .i64 0]) (t := 77) ?hr ?_; (case hd => rfl); (case hg => rfl); (case hr => first | (go_simp; done) | (go_simp; rfl)); intro gb214 hg w3 hbox hb; have n0_ := Aside0.mk (below_step (hx_ HB) hb); have n1_ := Aside0.mk (hbox); have n2_ := Aside0.mk ((by rw [hg]; exact (below_size (hx_ HB)) : w.heap.size ≤ gb214)); have n3_ := Aside0.mk ((by rw [hg]; exact (below_size (hx_ HB)) : w.heap.size ≤ gb214)); clear HB; have HB := n0_; have BK214 := n1_; have GW214 := n2_; have GE214 := n3_; clear n0_ n1_ n2_ n3_; clear hb hbox hg; have hcz4_0 : w3.cell? ⟨gb214, 0, none⟩ = some (.int .i64 0) := (blk_cell BK214.out 0).trans rfl; have hcz4_1 : w3.cell? ⟨gb214, 1, none⟩ = some (.int .u64 0) := (blk_cell BK214.out 1).trans rfl; have hcz4_2 : w3.cell? ⟨gb214, 2, none⟩ = some (.slice none 0 0) := (blk_cell BK214.out 2).trans rfl; have hcz4_3 : w3.cell? ⟨gb214, 3, none⟩ = some (.int .i64 0) := (blk_cell BK214.out 3).trans rfl; have hfz4_0 := blk_frozen BK214.out 0; have hfz4_1 := blk_frozen BK214.out 1; have hfz4_2 := blk_frozen BK214.out 2; have hfz4_3 := blk_frozen BK214.out 3))
  refine bodyPost_ret (results_ct rfl _ _ gb214 77 #[.int .i64 0, .int .u64 0, .slice none 0 0, .int .i64 0] (0, 0) _ rfl (by (with_reducible repeat first | apply zN | apply zD | apply zA); refine blk_put (cs := #[.int .i64 0, .int .u64 0, .slice none 0 0, .int .i64 0]) ?_ 3 _ rfl; (with_reducible repeat first | apply zN | apply zD | apply zA); refine blk_put (cs := #[.int .i64 0, .int .u64 0, .slice none 0 0, .int .i64 0]) ?_ 2 _ rfl; (with_reducible repeat first | apply zN | apply zD | apply zA); refine blk_put (cs := #[.int .i64 0, .int .u64 0, .slice none 0 0, .int .i64 0]) ?_ 1 _ rfl; (with_reducible repeat first | apply zN | apply zD | apply zA); refine blk_put (cs := #[.int .i64 0, .int .u64 0, .slice none 0 0, .int .i64 0]) ?_ 0 _ rfl; (with_reducible repeat first | apply zN | apply zD | apply zA); exact BK214.out) Tryd.underlying77 rfl (by kernel_rfl)) rfl ?_; exact ⟨_, by first | rfl | (simp [errW_none, errW_some] <;> rfl) | (simp [*, errW_none, errW_some] <;> rfl), by first | exact Kd.S_nil _ _ _ _ _ | exact Kd.N_nil _ _ _ _ _ | exact Kd.V_nil _ _ _ _ _ | exact Kd.Q_nil _ _ _ _ _ | exact Kd.R_nil _ _ _ _ _, by repeat (first | (with_reducible first | exact HB.out | apply yA | apply yN | apply yD | refine yS ?_ GE214.out) | exact HB.out)⟩
 (rw [if_neg c2] at H); have c2b0 : decide ((l0.length : Int) < 20) = false := decide_eq_false c2; have c2b1 : decide (l0.length < 20) = false := decide_eq_false (by omega); clear c2
 by_cases c5 : 4 ≤ 8
 rotate_left
 ·rw [if_neg c5] at H
  exact absurd H (by simp)
 (rw [if_pos c5] at H); have c5b0 := eq_true c5; have c5b1 : decide (4 ≤ 8) = true := decide_eq_true c5; clear c5
 by_cases c6 : 8 ≤ (l0.length : Int)
 rotate_left
 ·rw [if_neg c6] at H
  exact absurd H (by simp)
 (rw [if_pos c6] at H); have c6b0 := eq_true c6; have c6b1 : decide (8 ≤ (l0.length : Int)) = true := decide_eq_true c6; clear c6; replace H := Option.bind_eq_some_iff.mp H; obtain ⟨t216, A70, H⟩ := H; replace H : (if 8 ≤ 16 then (if 16 ≤ (l0.length : Int) then ((tikref2_Big.f k ((l0.take 16).drop 8)).bind fun t218 => ((tikref13_Header.f k (wrap64 (t216)) t218).bind fun bt220 => (if bt220.2 = 0 then (if 20 ≤ (l0.length : Int) then ((tikref_Bytes.f bt220.1 (l0.take 20)).bind fun t225 => (tikref13_ReadSeg.j0 k l0 (!t225) (wrap64 (t216)) t218 20)) else (none)) else (tikref13_ReadSeg.j0 k l0 true (wrap64 (t216)) t218 20)))) else (none)) else (none)) = some (r1, r2, r3, r4, r5) := H; have A7 := Aside0.mk A70; clear A70
 by_cases c8 : 8 ≤ 16
 rotate_left
 ·rw [if_neg c8] at H
  exact absurd H (by simp)
 (rw [if_pos c8] at H); have c8b0 := eq_true c8; have c8b1 : decide (8 ≤ 16) = true := decide_eq_true c8; clear c8
 by_cases c9 : 16 ≤ (l0.length : Int)
 rotate_left
 ·rw [if_neg c9] at H
  exact absurd H (by simp)
 (rw [if_pos c9] at H); have c9b0 := eq_true c9; have c9b1 : decide (16 ≤ (l0.length : Int)) = true := decide_eq_true c9; clear c9; replace H := Option.bind_eq_some_iff.mp H; obtain ⟨t218, A100, H⟩ := H; replace H : ((tikref13_Header.f k (wrap64 (t216)) t218).bind fun bt220 => (if bt220.2 = 0 then (if 20 ≤ (l0.length : Int) then ((tikref_Bytes.f bt220.1 (l0.take 20)).bind fun t225 => (tikref13_ReadSeg.j0 k l0 (!t225) (wrap64 (t216)) t218 20)) else (none)) else (tikref13_ReadSeg.j0 k l0 true (wrap64 (t216)) t218 20))) = some (r1, r2, r3, r4, r5) := H; have A10 := Aside0.mk A100; clear A100; replace H := Option.bind_eq_some_iff.mp H; obtain ⟨⟨t220, t221⟩, A110, H⟩ := H; replace H : (if t221 = 0 then (if 20 ≤ (l0.length : Int) then ((tikref_Bytes.f t220 (l0.take 20)).bind fun t225 => (tikref13_ReadSeg.j0 k l0 (!t225) (wrap64 (t216)) t218 20)) else (none)) else (tikref13_ReadSeg.j0 k l0 true (wrap64 (t216)) t218 20)) = some (r1, r2, r3, r4, r5) := H; have A11 := Aside0.mk A110; clear A110; have HC12 := Aside0.mk H; clear H
 go_enter Tryd.func35, Tryd.ntmps35
 try go_wp2_with (first | ((with_reducible refine gate_dst (N := 2) rfl ?_); (try (refine gate_guard (by rfl) ?_; dsimp only)); refine box_event ?hg (N := 2) ?hd (cs := #[.int .i64 0, .int .u64 0, .slice none 0 0, .int .i64 0]) (t := 77) ?hr ?_; (case hd => rfl); (case hg => rfl); (case hr => first | (go_simp; done) | (go_simp; rfl)); intro gb214 hg w13 hbox hb; have n0_ := Aside0.mk (below_step (hx_ HB) hb); have n1_ := Aside0.mk (hbox); have n2_ := Aside0.mk ((by rw [hg]; exact (below_size (hx_ HB)) : w.heap.size ≤ gb214)); have n3_ := Aside0.mk ((by rw [hg]; exact (below_size (hx_ HB)) : w.heap.size ≤ gb214)); clear HB; have HB := n0_; have BK214 := n1_; have GW214 := n2_; have GE214 := n3_; clear n0_ n1_ n2_ n3_; clear hb hbox hg))
 have n0_ := Aside0.mk (blk_drew BK214.out); have n1_ := Aside0.mk (below_drew1 HB.out); clear BK214; clear HB; have BK214 := n0_; have HB := n1_; clear n0_ n1_; obtain ⟨i015, hi015, _, hsz15, _⟩ := info_parts info5; obtain ⟨A15, hcut15, hA15, hC15⟩ := print_mid_of (P := Tryd.prog) (Value.int .u8) 0 64 5 .i64 .i64 Tryd.underlying64 hi015 hsz15 A0 c0 l0 4 8 (by omega) (by first | omega | exact of_decide_eq_true (by first | (with_reducible assumption) | assumption)) (of_decide_eq_true (by first | (with_reducible assumption) | assumption)) HC0.out; have HR215 := Aside0.mk (Kd.C_of_reads (h1 := fun _ => rfl) (hA15 _ (Kd.reads_of_C HR0.out))); have HC215 := Aside0.mk hC15; clear hA15 hC15 hi015 hsz15; obtain ⟨i016, hi016, _, hsz16, _⟩ := info_parts info5; obtain ⟨A16, hcut16, hA16, hC16⟩ := print_mid_of (P := Tryd.prog) (Value.int .u8) 0 64 5 .i64 .i64 Tryd.underlying64 hi016 hsz16 A0 c0 l0 8 16 (by omega) (by first | omega | exact of_decide_eq_true (by first | (with_reducible assumption) | assumption)) (of_decide_eq_true (by first | (with_reducible assumption) | assumption)) HC0.out; have HR217 := Aside0.mk (Kd.C_of_reads (h1 := fun _ => rfl) (hA16 _ (Kd.reads_of_C HR0.out))); have HC217 := Aside0.mk hC16; clear hA16 hC16 hi016 hsz16; refine start_ (n := 10) (S := fun w' => True) (ds := []) #[false, false, false, false, false, false, false, false, false, false] (by kernel_rfl) rfl rfl trivial (fun hHeld => ?_); refine with_tabW tikref13_ReadSeg.tab3 tikref13_ReadSeg.bits3 (fun HT_ HW_ => ?_); (generalize w13.drew = w14 at BK214 HB HR215 HR217 hHeld ⊢); refine pure_ (i := 0) (N := some 14) (v := ?_) (a' := ?_) #[true, false, false, false, false, false, false, false, false, false] rfl rfl (any_of HT_.out (by kernel_rfl)) (fun _ _ _ h => h) (Or.inl ⟨by rfl, ?_⟩) ?_ ?_
 rotate_left
 ·intro w'
  go_simp
  with_reducible rfl
 rotate_left
 ·simp only [Act.put, List.setIfInBounds_toArray, List.set_cons_zero, List.set_cons_succ, i64_w, i32_w]
  rfl
 refine pure_ (i := 1) (N := some 15) (v := ?_) (a' := ?_) #[true, true, false, false, false, false, false, false, false, false] rfl rfl (any_of HT_.out (by kernel_rfl)) (fun _ _ _ h => h) (Or.inl ⟨by rfl, ?_⟩) ?_ ?_
 rotate_left
 ·intro w'
  go_simp
  with_reducible rfl
 rotate_left
 ·simp only [Act.put, List.setIfInBounds_toArray, List.set_cons_zero, List.set_cons_succ, i64_w, i32_w]
  rfl
 refine pure_ (i := 4) (N := some 18) (v := ?_) (a' := ?_) #[true, true, false, false, true, false, false, false, false, false] rfl rfl (any_of HT_.out (by kernel_rfl)) (fun _ _ _ h => h) (Or.inl ⟨by rfl, ?_⟩) ?_ ?_
 rotate_left
 ·intro w'
  go_simp
  with_reducible rfl
 rotate_left
 ·simp only [Act.put, List.setIfInBounds_toArray, List.set_cons_zero, List.set_cons_succ, i64_w, i32_w]
  rfl
 refine pure_ (i := 5) (N := some 19) (v := ?_) (a' := ?_) #[true, true, false, false, true, true, false, false, false, false] rfl rfl (any_of HT_.out (by kernel_rfl)) (fun _ _ _ h => h) (Or.inl ⟨by rfl, ?_⟩) ?_ ?_
 rotate_left
 ·intro w'
  go_simp
  with_reducible rfl
 rotate_left
 ·simp only [Act.put, List.setIfInBounds_toArray, List.set_cons_zero, List.set_cons_succ, i64_w, i32_w]
  rfl
 refine join_ (σ := Nat) 1 #[true, true, true, true, true, true, true, true, true, false] (fun s_ => [(16, .int .u64 t216), (20, .int .u64 t218), (4, .pointer (some ⟨s_, 0, none⟩)), (17, .int .i64 (wrap64 (t216))), (21, .agg #[.int .i64 (wrap64 (t216)), .int .u64 t218, .slice none 0 0, .int .i64 20])]) (fun s_ w' => (w'.heap[gb214]? = some (.cells #[.int .i64 0, .int .u64 0, .slice none 0 0, .int .i64 0] 77 (0, 0))) ∧ (w'.heap[s_]? = some (.cells #[.int .i64 0, .int .u64 0, .slice none 0 0, .int .i64 0] 77 (0, 0))) ∧ (w.heap.size ≤ s_) ∧ (w.heap.size ≤ s_) ∧ (gb214 ≠ s_) ∧ (s_ ≠ gb214) ∧ (Below w.heap.size w w')) ?_ ?_
 rotate_left
 ·intro hCont
  refine two_ (i := 2) (j := 8) (Ni := some 16) (Nj := some 4) #[true, true, true, false, true, true, false, false, false, false] #[true, true, false, false, true, true, false, false, true, false] rfl rfl rfl rfl (two_of HT_.out (by kernel_rfl)) (by decide) (by decide) (fun K hK => ?_) (fun K hK => ?_)
  ·skip
   refine goes_ Tryd.func72 (by kernel_rfl) rfl #[.slice A15 ((l0.take 8).drop 4).length (c0 - 4)] (by rfl) rfl rfl (by (try simp only [List.map_toArray, List.map_cons, List.map_nil]); first | done | (rw [show ((l0.take 8).drop 4).length = (8 - 4) from (by rw [List.length_drop, List.length_take]; have h_ : (8 : Int) ≤ (l0.length : Int) := of_decide_eq_true (by first | (with_reducible assumption) | assumption); omega)] <;> rfl) | rfl | (simp only [List.length_drop, List.length_take]; rfl)) ?_
   with_reducible refine (tikref2_Big.calls k _ _ ((l0.take 8).drop 4) t216 _ ?side1 ?side2 A7.out).mono ?_
   (case side1 => repeat (first | exact (Kd.C_below HR215.out HB.out) | (with_reducible refine Kd.C_alloc ?_ _) | (with_reducible refine Kd.C_drewN ?_ _) | (with_reducible refine Kd.C_drew ?_))); (case side2 => exact HC215.out); rintro e w' ⟨rfl, ⟨nd, rfl⟩⟩; refine ⟨_, rfl, ?_⟩; refine hK.out _ _ trivial (fun hHeld => ?_); clear hK K; refine norm_ (a' := ?_) ?_ ?_
   rotate_left
   ·show Act.put _ (some 16) _ = _
    simp only [Act.put, List.setIfInBounds_toArray, List.set_cons_zero, List.set_cons_succ, i64_w, i32_w]
    rfl
   refine pure_ (i := 3) (N := some 17) (v := ?_) (a' := ?_) #[true, true, true, true, true, true, false, false, false, false] rfl rfl (any_of HT_.out (by kernel_rfl)) (fun _ _ _ h => h) (Or.inl ⟨by rfl, ?_⟩) ?_ ?_
   rotate_left
   ·intro w'
    go_simp
    with_reducible rfl
   rotate_left
   ·simp only [Act.put, List.setIfInBounds_toArray, List.set_cons_zero, List.set_cons_succ, i64_w, i32_w]
    rfl
   refine two_ (i := 6) (j := 8) (Ni := some 20) (Nj := some 4) #[true, true, true, true, true, true, true, false, false, false] #[true, true, true, true, true, true, false, false, true, false] rfl rfl rfl rfl (two_of HT_.out (by kernel_rfl)) (by decide) (by decide) (fun K hK => ?_) (fun K hK => ?_)
   ·skip
    refine goes_ Tryd.func72 (by kernel_rfl) rfl #[.slice A16 ((l0.take 16).drop 8).length (c0 - 8)] (by rfl) rfl rfl (by (try simp only [List.map_toArray, List.map_cons, List.map_nil]); first | done | (rw [show ((l0.take 16).drop 8).length = (16 - 8) from (by rw [List.length_drop, List.length_take]; have h_ : (16 : Int) ≤ (l0.length : Int) := of_decide_eq_true (by first | (with_reducible assumption) | assumption); omega)] <;> rfl) | rfl | (simp only [List.length_drop, List.length_take]; rfl)) ?_
    with_reducible refine (tikref2_Big.calls k _ _ ((l0.take 16).drop 8) t218 _ ?side1 ?side2 A10.out).mono ?_
    (case side1 => repeat (first | exact (Kd.C_below HR217.out (by repeat (first | (with_reducible first | exact HB.out | apply yA | apply yN | apply yD | refine yS ?_ GE214.out) | exact HB.out))) | (with_reducible refine Kd.C_alloc ?_ _) | (with_reducible refine Kd.C_drewN ?_ _) | (with_reducible refine Kd.C_drew ?_))); (case side2 => exact HC217.out); rintro e w' ⟨rfl, ⟨nd, rfl⟩⟩; refine ⟨_, rfl, ?_⟩; refine hK.out _ _ trivial (fun hHeld => ?_); clear hK K; refine norm_ (a' := ?_) ?_ ?_
    rotate_left
    ·show Act.put _ (some 20) _ = _
     simp only [Act.put, List.setIfInBounds_toArray, List.set_cons_zero, List.set_cons_succ, i64_w, i32_w]
     rfl
    refine pure_ (i := 7) (N := some 21) (v := ?_) (a' := ?_) #[true, true, true, true, true, true, true, true, false, false] rfl rfl (any_of HT_.out (by kernel_rfl)) (fun _ _ _ h => h) (Or.inl ⟨by rfl, ?_⟩) ?_ ?_
    rotate_left
    ·intro w'
     go_simp
     with_reducible rfl
    rotate_left
    ·simp only [Act.put, List.setIfInBounds_toArray, List.set_cons_zero, List.set_cons_succ, i64_w, i32_w]
     rfl
    refine one_ (i := 8) (N := some 4) #[true, true, true, true, true, true, true, true, true, false] rfl rfl (one_of HT_.out (by kernel_rfl)) (by decide) (fun K hK => ?_); refine box_step ?hg (N := 4) ?hd (cs := #[.int .i64 0, .int .u64 0, .slice none 0 0, .int .i64 0]) (t := 77) ?hr ?_; (case hd => rfl); (case hg => rfl); (case hr => first | (go_simp; done) | (go_simp; rfl)); intro gb219 hg w17 hbox hb; have n0_ := Aside0.mk (blk_below (g := gb214) (o := .cells #[.int .i64 0, .int .u64 0, .slice none 0 0, .int .i64 0] 77 (0, 0)) (bx_ BK214) hb); have n1_ := Aside0.mk (below_step (by repeat (first | (with_reducible first | exact HB.out | apply yA | apply yN | apply yD | refine yS ?_ GE214.out) | exact HB.out)) hb); have n2_ := Aside0.mk (hbox); have n3_ := Aside0.mk ((by rw [hg]; exact (below_size (by repeat (first | (with_reducible first | exact HB.out | apply yA | apply yN | apply yD | refine yS ?_ GE214.out) | exact HB.out))) : w.heap.size ≤ gb219)); have n4_ := Aside0.mk ((by rw [hg]; exact (below_size (by repeat (first | (with_reducible first | exact HB.out | apply yA | apply yN | apply yD | refine yS ?_ GE214.out) | exact HB.out))) : w.heap.size ≤ gb219)); have n5_ := Aside0.mk ((by rw [hg]; exact Nat.ne_of_lt (blk_lt (g := gb214) (o := .cells #[.int .i64 0, .int .u64 0, .slice none 0 0, .int .i64 0] 77 (0, 0)) (bx_ BK214)) : gb214 ≠ gb219)); have n6_ := Aside0.mk ((by rw [hg]; exact Nat.ne_of_gt (blk_lt (g := gb214) (o := .cells #[.int .i64 0, .int .u64 0, .slice none 0 0, .int .i64 0] 77 (0, 0)) (bx_ BK214)) : gb219 ≠ gb214)); clear BK214; clear HB; have BK214 := n0_; have HB := n1_; have BK219 := n2_; have GW219 := n3_; have GE219 := n4_; have NB214_219 := n5_; have NB219_214 := n6_; clear n0_ n1_ n2_ n3_ n4_ n5_ n6_; clear hb hbox hg; refine hK.out _ _ trivial (fun hHeld => ?_); clear hK K; refine norm_ (a' := ?_) ?_ ?_
    rotate_left
    ·show Act.put _ (some 4) _ = _
     simp only [Act.put, List.setIfInBounds_toArray, List.set_cons_zero, List.set_cons_succ, i64_w, i32_w]
     rfl
    exact norm_ (by simp only [putAll, Act.put, List.setIfInBounds_toArray, List.set_cons_zero, List.set_cons_succ]) (hCont (gb219) _ ⟨(bx_ BK214), (bx_ BK219), GW219.out, GE219.out, NB214_219.out, NB219_214.out, (by repeat (first | (with_reducible first | exact HB.out | apply yA | apply yN | apply yD | refine yS ?_ GE214.out | refine yS ?_ GE219.out) | exact HB.out))⟩)
   ·skip
    refine box_step ?hg (N := 4) ?hd (cs := #[.int .i64 0, .int .u64 0, .slice none 0 0, .int .i64 0]) (t := 77) ?hr ?_; (case hd => rfl); (case hg => rfl); (case hr => first | (go_simp; done) | (go_simp; rfl)); intro gb219 hg w17 hbox hb; have n0_ := Aside0.mk (blk_below (g := gb214) (o := .cells #[.int .i64 0, .int .u64 0, .slice none 0 0, .int .i64 0] 77 (0, 0)) (bx_ BK214) hb); have n1_ := Aside0.mk (below_step (by repeat (first | (with_reducible first | exact HB.out | apply yA | apply yN | apply yD | refine yS ?_ GE214.out) | exact HB.out)) hb); have n2_ := Aside0.mk (hbox); have n3_ := Aside0.mk ((by rw [hg]; exact (below_size (by repeat (first | (with_reducible first | exact HB.out | apply yA | apply yN | apply yD | refine yS ?_ GE214.out) | exact HB.out))) : w.heap.size ≤ gb219)); have n4_ := Aside0.mk ((by rw [hg]; exact (below_size (by repeat (first | (with_reducible first | exact HB.out | apply yA | apply yN | apply yD | refine yS ?_ GE214.out) | exact HB.out))) : w.heap.size ≤ gb219)); have n5_ := Aside0.mk ((by rw [hg]; exact Nat.ne_of_lt (blk_lt (g := gb214) (o := .cells #[.int .i64 0, .int .u64 0, .slice none 0 0, .int .i64 0] 77 (0, 0)) (bx_ BK214)) : gb214 ≠ gb219)); have n6_ := Aside0.mk ((by rw [hg]; exact Nat.ne_of_gt (blk_lt (g := gb214) (o := .cells #[.int .i64 0, .int .u64 0, .slice none 0 0, .int .i64 0] 77 (0, 0)) (bx_ BK214)) : gb219 ≠ gb214)); clear BK214; clear HB; have BK214 := n0_; have HB := n1_; have BK219 := n2_; have GW219 := n3_; have GE219 := n4_; have NB214_219 := n5_; have NB219_214 := n6_; clear n0_ n1_ n2_ n3_ n4_ n5_ n6_; clear hb hbox hg; refine hK.out _ _ trivial (fun hHeld => ?_); clear hK K; refine norm_ (a' := ?_) ?_ ?_
    rotate_left
    ·show Act.put _ (some 4) _ = _
     simp only [Act.put, List.setIfInBounds_toArray, List.set_cons_zero, List.set_cons_succ, i64_w, i32_w]
     rfl
    refine one_ (i := 6) (N := some 20) #[true, true, true, true, true, true, true, false, true, false] rfl rfl (one_of HT_.out (by kernel_rfl)) (by decide) (fun K hK => ?_); refine goes_ Tryd.func72 (by kernel_rfl) rfl #[.slice A16 ((l0.take 16).drop 8).length (c0 - 8)] (by rfl) rfl rfl (by (try simp only [List.map_toArray, List.map_cons, List.map_nil]); first | done | (rw [show ((l0.take 16).drop 8).length = (16 - 8) from (by rw [List.length_drop, List.length_take]; have h_ : (16 : Int) ≤ (l0.length : Int) := of_decide_eq_true (by first | (with_reducible assumption) | assumption); omega)] <;> rfl) | rfl | (simp only [List.length_drop, List.length_take]; rfl)) ?_
    with_reducible refine (tikref2_Big.calls k _ _ ((l0.take 16).drop 8) t218 _ ?side1 ?side2 A10.out).mono ?_
    (case side1 => repeat (first | exact (Kd.C_below HR217.out HB.out) | (with_reducible refine Kd.C_alloc ?_ _) | (with_reducible refine Kd.C_drewN ?_ _) | (with_reducible refine Kd.C_drew ?_))); (case side2 => exact HC217.out); rintro e w' ⟨rfl, ⟨nd, rfl⟩⟩; refine ⟨_, rfl, ?_⟩; refine hK.out _ _ trivial (fun hHeld => ?_); clear hK K; refine norm_ (a' := ?_) ?_ ?_
    rotate_left
    ·show Act.put _ (some 20) _ = _
     simp only [Act.put, List.setIfInBounds_toArray, List.set_cons_zero, List.set_cons_succ, i64_w, i32_w]
     rfl
    refine pure_ (i := 7) (N := some 21) (v := ?_) (a' := ?_) #[true, true, true, true, true, true, true, true, true, false] rfl rfl (any_of HT_.out (by kernel_rfl)) (fun _ _ _ h => h) (Or.inl ⟨by rfl, ?_⟩) ?_ ?_
    rotate_left
    ·intro w'
     go_simp
     with_reducible rfl
    rotate_left
    ·simp only [Act.put, List.setIfInBounds_toArray, List.set_cons_zero, List.set_cons_succ, i64_w, i32_w]
     rfl
    exact norm_ (by simp only [putAll, Act.put, List.setIfInBounds_toArray, List.set_cons_zero, List.set_cons_succ]) (hCont (gb219) _ ⟨(bx_ BK214), (bx_ BK219), GW219.out, GE219.out, NB214_219.out, NB219_214.out, (by repeat (first | (with_reducible first | exact HB.out | apply yA | apply yN | apply yD | refine yS ?_ GE214.out | refine yS ?_ GE219.out) | exact HB.out))⟩)
  ·skip
   refine box_step ?hg (N := 4) ?hd (cs := #[.int .i64 0, .int .u64 0, .slice none 0 0, .int .i64 0]) (t := 77) ?hr ?_; (case hd => rfl); (case hg => rfl); (case hr => first | (go_simp; done) | (go_simp; rfl)); intro gb219 hg w17 hbox hb; have n0_ := Aside0.mk (blk_below (g := gb214) (o := .cells #[.int .i64 0, .int .u64 0, .slice none 0 0, .int .i64 0] 77 (0, 0)) (bx_ BK214) hb); have n1_ := Aside0.mk (below_step (by repeat (first | (with_reducible first | exact HB.out | apply yA | apply yN | apply yD | refine yS ?_ GE214.out) | exact HB.out)) hb); have n2_ := Aside0.mk (hbox); have n3_ := Aside0.mk ((by rw [hg]; exact (below_size (by repeat (first | (with_reducible first | exact HB.out | apply yA | apply yN | apply yD | refine yS ?_ GE214.out) | exact HB.out))) : w.heap.size ≤ gb219)); have n4_ := Aside0.mk ((by rw [hg]; exact (below_size (by repeat (first | (with_reducible first | exact HB.out | apply yA | apply yN | apply yD | refine yS ?_ GE214.out) | exact HB.out))) : w.heap.size ≤ gb219)); have n5_ := Aside0.mk ((by rw [hg]; exact Nat.ne_of_lt (blk_lt (g := gb214) (o := .cells #[.int .i64 0, .int .u64 0, .slice none 0 0, .int .i64 0] 77 (0, 0)) (bx_ BK214)) : gb214 ≠ gb219)); have n6_ := Aside0.mk ((by rw [hg]; exact Nat.ne_of_gt (blk_lt (g := gb214) (o := .cells #[.int .i64 0, .int .u64 0, .slice none 0 0, .int .i64 0] 77 (0, 0)) (bx_ BK214)) : gb219 ≠ gb214)); clear BK214; clear HB; have BK214 := n0_; have HB := n1_; have BK219 := n2_; have GW219 := n3_; have GE219 := n4_; have NB214_219 := n5_; have NB219_214 := n6_; clear n0_ n1_ n2_ n3_ n4_ n5_ n6_; clear hb hbox hg; refine hK.out _ _ trivial (fun hHeld => ?_); clear hK K; refine norm_ (a' := ?_) ?_ ?_
   rotate_left
   ·show Act.put _ (some 4) _ = _
    simp only [Act.put, List.setIfInBounds_toArray, List.set_cons_zero, List.set_cons_succ, i64_w, i32_w]
    rfl
   refine one_ (i := 2) (N := some 16) #[true, true, true, false, true, true, false, false, true, false] rfl rfl (one_of HT_.out (by kernel_rfl)) (by decide) (fun K hK => ?_); refine goes_ Tryd.func72 (by kernel_rfl) rfl #[.slice A15 ((l0.take 8).drop 4).length (c0 - 4)] (by rfl) rfl rfl (by (try simp only [List.map_toArray, List.map_cons, List.map_nil]); first | done | (rw [show ((l0.take 8).drop 4).length = (8 - 4) from (by rw [List.length_drop, List.length_take]; have h_ : (8 : Int) ≤ (l0.length : Int) := of_decide_eq_true (by first | (with_reducible assumption) | assumption); omega)] <;> rfl) | rfl | (simp only [List.length_drop, List.length_take]; rfl)) ?_
   with_reducible refine (tikref2_Big.calls k _ _ ((l0.take 8).drop 4) t216 _ ?side1 ?side2 A7.out).mono ?_
   (case side1 => repeat (first | exact (Kd.C_below HR215.out HB.out) | (with_reducible refine Kd.C_alloc ?_ _) | (with_reducible refine Kd.C_drewN ?_ _) | (with_reducible refine Kd.C_drew ?_))); (case side2 => exact HC215.out); rintro e w' ⟨rfl, ⟨nd, rfl⟩⟩; refine ⟨_, rfl, ?_⟩; refine hK.out _ _ trivial (fun hHeld => ?_); clear hK K; refine norm_ (a' := ?_) ?_ ?_
   rotate_left
   ·show Act.put _ (some 16) _ = _
    simp only [Act.put, List.setIfInBounds_toArray, List.set_cons_zero, List.set_cons_succ, i64_w, i32_w]
    rfl
   refine pure_ (i := 3) (N := some 17) (v := ?_) (a' := ?_) #[true, true, true, true, true, true, false, false, true, false] rfl rfl (any_of HT_.out (by kernel_rfl)) (fun _ _ _ h => h) (Or.inl ⟨by rfl, ?_⟩) ?_ ?_
   rotate_left
   ·intro w'
    go_simp
    with_reducible rfl
   rotate_left
   ·simp only [Act.put, List.setIfInBounds_toArray, List.set_cons_zero, List.set_cons_succ, i64_w, i32_w]
    rfl
   refine one_ (i := 6) (N := some 20) #[true, true, true, true, true, true, true, false, true, false] rfl rfl (one_of HT_.out (by kernel_rfl)) (by decide) (fun K hK => ?_); refine goes_ Tryd.func72 (by kernel_rfl) rfl #[.slice A16 ((l0.take 16).drop 8).length (c0 - 8)] (by rfl) rfl rfl (by (try simp only [List.map_toArray, List.map_cons, List.map_nil]); first | done | (rw [show ((l0.take 16).drop 8).length = (16 - 8) from (by rw [List.length_drop, List.length_take]; have h_ : (16 : Int) ≤ (l0.length : Int) := of_decide_eq_true (by first | (with_reducible assumption) | assumption); omega)] <;> rfl) | rfl | (simp only [List.length_drop, List.length_take]; rfl)) ?_
   with_reducible refine (tikref2_Big.calls k _ _ ((l0.take 16).drop 8) t218 _ ?side1 ?side2 A10.out).mono ?_
   (case side1 => repeat (first | exact (Kd.C_below HR217.out (by repeat (first | (with_reducible first | exact HB.out | apply yA | apply yN | apply yD | refine yS ?_ GE214.out | refine yS ?_ GE219.out) | exact HB.out))) | (with_reducible refine Kd.C_alloc ?_ _) | (with_reducible refine Kd.C_drewN ?_ _) | (with_reducible refine Kd.C_drew ?_))); (case side2 => exact HC217.out); rintro e w' ⟨rfl, ⟨nd, rfl⟩⟩; refine ⟨_, rfl, ?_⟩; refine hK.out _ _ trivial (fun hHeld => ?_); clear hK K; refine norm_ (a' := ?_) ?_ ?_
   rotate_left
   ·show Act.put _ (some 20) _ = _
    simp only [Act.put, List.setIfInBounds_toArray, List.set_cons_zero, List.set_cons_succ, i64_w, i32_w]
    rfl
   refine pure_ (i := 7) (N := some 21) (v := ?_) (a' := ?_) #[true, true, true, true, true, true, true, true, true, false] rfl rfl (any_of HT_.out (by kernel_rfl)) (fun _ _ _ h => h) (Or.inl ⟨by rfl, ?_⟩) ?_ ?_
   rotate_left
   ·intro w'
    go_simp
    with_reducible rfl
   rotate_left
   ·simp only [Act.put, List.setIfInBounds_toArray, List.set_cons_zero, List.set_cons_succ, i64_w, i32_w]
    rfl
   exact norm_ (by simp only [putAll, Act.put, List.setIfInBounds_toArray, List.set_cons_zero, List.set_cons_succ]) (hCont (gb219) _ ⟨(bx_ BK214), (bx_ BK219), GW219.out, GE219.out, NB214_219.out, NB219_214.out, (by repeat (first | (with_reducible first | exact HB.out | apply yA | apply yN | apply yD | refine yS ?_ GE214.out | refine yS ?_ GE219.out) | exact HB.out))⟩)
 rintro gb219 w18 ⟨h0_, h1_, h2_, h3_, h4_, h5_, h6_⟩; have n0_ : Aside0 (w18.heap[gb214]? = some (.cells #[.int .i64 0, .int .u64 0, .slice none 0 0, .int .i64 0] 77 (0, 0))) := ⟨h0_⟩; have n1_ : Aside0 (w18.heap[gb219]? = some (.cells #[.int .i64 0, .int .u64 0, .slice none 0 0, .int .i64 0] 77 (0, 0))) := ⟨h1_⟩; have n2_ : Aside0 (w.heap.size ≤ gb219) := ⟨h2_⟩; have n3_ : Aside0 (w.heap.size ≤ gb219) := ⟨h3_⟩; have n4_ : Aside0 (gb214 ≠ gb219) := ⟨h4_⟩; have n5_ : Aside0 (gb219 ≠ gb214) := ⟨h5_⟩; have n6_ : Aside0 (Below w.heap.size w w18) := ⟨h6_⟩; clear BK214; clear HB; clear h0_ h1_ h2_ h3_ h4_ h5_ h6_; have BK214 := n0_; have BK219 := n1_; have GW219 := n2_; have GE219 := n3_; have NB214_219 := n4_; have NB219_214 := n5_; have HB := n6_; clear n0_ n1_ n2_ n3_ n4_ n5_ n6_; have hHeld := trivial; refine norm_ (a' := ?_) ?_ ?_
 rotate_left
 ·simp only [putAll, Act.put, List.setIfInBounds_toArray, List.set_cons_zero, List.set_cons_succ]
  rfl
 refine one_ (i := 9) (N := none) #[true, true, true, true, true, true, true, true, true, true] rfl rfl (one_of HT_.out (by kernel_rfl)) (by decide) (fun K hK => ?_); have hs19 : w18.cell? ⟨gb219, 0, none⟩ = some (.int .i64 0) := (blk_cell BK219.out 0).trans rfl; have hfs19 := blk_frozen BK219.out 0; have hns19_0 := NB214_219.out; have hms19_0 := NB219_214.out; have hs20 : w18.cell? ⟨gb219, 1, none⟩ = some (.int .u64 0) := (blk_cell BK219.out 1).trans rfl; have hfs20 := blk_frozen BK219.out 1; have hns20_0 := NB214_219.out; have hms20_0 := NB219_214.out; have hs21 : w18.cell? ⟨gb219, 2, none⟩ = some (.slice none 0 0) := (blk_cell BK219.out 2).trans rfl; have hfs21 := blk_frozen BK219.out 2; have hns21_0 := NB214_219.out; have hms21_0 := NB219_214.out; have hs22 : w18.cell? ⟨gb219, 3, none⟩ = some (.int .i64 0) := (blk_cell BK219.out 3).trans rfl; have hfs22 := blk_frozen BK219.out 3; have hns22_0 := NB214_219.out; have hms22_0 := NB219_214.out; refine skip_ (w1 := ?_) (by rfl) rfl ?_ ?_
 rotate_left
 ·go_simp
  rfl
 refine hK.out _ _ trivial (fun hHeld => ?_); clear hK K; refine done_ (done_of HT_.out (by kernel_rfl)) ?_; have hnb23 := NB219_214.out; have hnc23 := NB214_219.out; have hcz24_0 : w18.cell? ⟨gb219, 0, none⟩ = some (.int .i64 0) := (blk_cell BK219.out 0).trans rfl; have hcz24_1 : w18.cell? ⟨gb219, 1, none⟩ = some (.int .u64 0) := (blk_cell BK219.out 1).trans rfl; have hcz24_2 : w18.cell? ⟨gb219, 2, none⟩ = some (.slice none 0 0) := (blk_cell BK219.out 2).trans rfl; have hcz24_3 : w18.cell? ⟨gb219, 3, none⟩ = some (.int .i64 0) := (blk_cell BK219.out 3).trans rfl; have hfz24_0 := blk_frozen BK219.out 0; have hfz24_1 := blk_frozen BK219.out 1; have hfz24_2 := blk_frozen BK219.out 2; have hfz24_3 := blk_frozen BK219.out 3
 go_upto_region 5 with (first | ((with_reducible refine gate_callee (f := 33) rfl ?_); refine goesL_ (some 27) rfl rfl Tryd.func33 (by kernel_rfl) rfl #[.int .i64 (wrap64 (t216)), .int .u64 t218] rfl (by (try simp only [List.map_toArray, List.map_cons, List.map_nil]); first | done | rfl | (simp only [List.length_drop, List.length_take]; rfl)) ?_; (with_reducible refine (tikref13_Header.calls k (wrap64 (t216)) t218 t220 t221 _ A11.out).mono ?_); rintro e w25 ⟨v222, rfl, ho0, hb⟩; refine ⟨_, rfl, ?_⟩; have n0_ := Aside0.mk (Kd.R_lower ho0 (below_size (by repeat (first | (with_reducible first | exact HB.out | apply yA | apply yN | apply yD | refine yS ?_ GE214.out | refine yS ?_ GE219.out) | exact HB.out)))); have n1_ := Aside0.mk (blk_below (g := gb214) (o := .cells #[.int .i64 0, .int .u64 0, .slice none 0 0, .int .i64 0] 77 (0, 0)) (by (with_reducible repeat first | apply zN | apply zD | apply zA); refine blk_far ?_ NB214_219.out _; (with_reducible repeat first | apply zN | apply zD | apply zA); refine blk_far ?_ NB214_219.out _; (with_reducible repeat first | apply zN | apply zD | apply zA); refine blk_far ?_ NB214_219.out _; (with_reducible repeat first | apply zN | apply zD | apply zA); refine blk_far ?_ NB214_219.out _; (with_reducible repeat first | apply zN | apply zD | apply zA); exact BK214.out) hb); have n2_ := Aside0.mk (blk_below (g := gb219) (o := .cells #[.int .i64 (wrap64 (t216)), .int .u64 t218, .slice none 0 0, .int .i64 20] 77 (0, 0)) (by (with_reducible repeat first | apply zN | apply zD | apply zA); refine blk_put (cs := #[.int .i64 (wrap64 (t216)), .int .u64 t218, .slice none 0 0, .int .i64 0]) ?_ 3 _ rfl; (with_reducible repeat first | apply zN | apply zD | apply zA); refine blk_put (cs := #[.int .i64 (wrap64 (t216)), .int .u64 t218, .slice none 0 0, .int .i64 0]) ?_ 2 _ rfl; (with_reducible repeat first | apply zN | apply zD | apply zA); refine blk_put (cs := #[.int .i64 (wrap64 (t216)), .int .u64 0, .slice none 0 0, .int .i64 0]) ?_ 1 _ rfl; (with_reducible repeat first | apply zN | apply zD | apply zA); refine blk_put (cs := #[.int .i64 0, .int .u64 0, .slice none 0 0, .int .i64 0]) ?_ 0 _ rfl; (with_reducible repeat first | apply zN | apply zD | apply zA); exact BK219.out) hb); have n3_ := Aside0.mk (below_step (by repeat (first | (with_reducible first | exact HB.out | apply yA | apply yN | apply yD | refine yS ?_ GE214.out | refine yS ?_ GE219.out) | exact HB.out)) hb); clear BK214; clear BK219; clear HB; have HO223 := n0_; have BK214 := n1_; have BK219 := n2_; have HB := n3_; clear n0_ n1_ n2_ n3_; (try clear hb); (try clear hb2); (try clear hk); (try clear hi); (try clear ho0)))
 (try simp only [Act.put, List.setIfInBounds_toArray, List.set_cons_zero, List.set_cons_succ])
 go_cut [38] (fun v38 wc => ∃ (kq : Nat) (x38_11 : Bool), v38 = .bool x38_11 ∧ Aside0 (tikref13_ReadSeg.j0 kq l0 x38_11 (wrap64 (t216)) t218 20 = some (r1, r2, r3, r4, r5)) ∧ Aside0 (kq ≤ k) ∧ Aside0 (wc.heap[gb214]? = some (.cells #[.int .i64 0, .int .u64 0, (.slice none 0 0), .int .i64 0] 77 (0, 0))) ∧ Aside0 (wc.heap[gb219]? = some (.cells #[.int .i64 (wrap64 (t216)), .int .u64 t218, (.slice none 0 0), .int .i64 20] 77 (0, 0))) ∧ Aside0 (Below w.heap.size w wc))
 case first =>
  have H := HC12.out; clear HC12
  by_cases c26 : t221 = 0
  rotate_left
  ·rw [if_neg c26] at H
   have c26b0 : (t221 == 0) = false := beq_eq_false_iff_ne.mpr c26; have c26b1 : (t221 != 0) = true := bne_iff_ne.mpr c26; (first | rw [c26b0] | (simp only [i64_w, i32_w]; rw [c26b0]) | skip); have H' := Aside0.mk H; clear H
   go_wp2
   go_meet
   case rel => exact ⟨_, (true), (by first | rfl | (simp; done) | (simp [*]; done)), H', ⟨by first | omega | exact Nat.le_refl _⟩, ⟨by (with_reducible repeat first | apply zN | apply zD | apply zA); exact BK214.out⟩, ⟨by (with_reducible repeat first | apply zN | apply zD | apply zA); exact BK219.out⟩, ⟨by repeat (first | (with_reducible first | exact HB.out | apply yA | apply yN | apply yD | refine yS ?_ GE214.out | refine yS ?_ GE219.out) | exact HB.out)⟩⟩
  (rw [if_pos c26] at H); have c26b0 : (t221 == 0) = true := beq_iff_eq.mpr c26; have c26b1 : (t221 != 0) = false := bne_eq_false_iff_eq.mpr c26; clear c26; (first | rw [c26b0] | (simp only [i64_w, i32_w]; rw [c26b0]) | skip)
  by_cases c27 : 20 ≤ (l0.length : Int)
  rotate_left
  ·rw [if_neg c27] at H
   exact absurd H (by simp)
  (rw [if_pos c27] at H); have c27b0 := eq_true c27; have c27b1 : decide (20 ≤ (l0.length : Int)) = true := decide_eq_true c27; clear c27; replace H := Option.bind_eq_some_iff.mp H; obtain ⟨t225, A280, H⟩ := H; replace H : (tikref13_ReadSeg.j0 k l0 (!t225) (wrap64 (t216)) t218 20) = some (r1, r2, r3, r4, r5) := H; have A28 := Aside0.mk A280; clear A280; have H' := Aside0.mk H; clear H; obtain ⟨i029, hi029, _, hsz29, _⟩ := info_parts info5; obtain ⟨hcut29, hA29, hC29⟩ := print_take_of (P := Tryd.prog) (Value.int .u8) 0 64 5 .i64 Tryd.underlying64 hi029 hsz29 A0 c0 l0 20 (by omega) (of_decide_eq_true (by first | (with_reducible assumption) | assumption)) HC0.out; have HR224 := Aside0.mk (Kd.C_of_reads (h1 := fun _ => rfl) (hA29 _ (Kd.reads_of_C HR0.out))); have HC224 := Aside0.mk hC29; clear hA29 hC29 hi029 hsz29; obtain ⟨Ao30, co30, eo30⟩ := Kd.R_slice HO223.out; subst eo30
  go_wp2_with (first | (go_at_call 38; (try rw [show min 20 l0.length = (l0.take 20).length from List.length_take.symm]); (with_reducible refine (tikref_Bytes.calls _ _ t220 _ _ (l0.take 20) t225 _ ?side1 ?side2 ?side3 ?side4 A28.out).mono ?_); (case side1 => repeat (first | exact (Kd.R_reads' HO223.out).2.2 | (with_reducible refine Kd.C_alloc ?_ _) | (with_reducible refine Kd.C_drewN ?_ _) | (with_reducible refine Kd.C_drew ?_))); (case side2 => exact (Kd.R_reads' HO223.out).2.1); (case side3 => repeat (first | exact (Kd.C_below HR224.out HB.out) | (with_reducible refine Kd.C_alloc ?_ _) | (with_reducible refine Kd.C_drewN ?_ _) | (with_reducible refine Kd.C_drew ?_))); (case side4 => exact HC224.out); rintro e w' ⟨rfl, ⟨nd, rfl⟩⟩))
  go_meet
  case rel => exact ⟨_, (!t225), (by first | rfl | (simp; done) | (simp [*]; done)), H', ⟨by first | omega | exact Nat.le_refl _⟩, ⟨by (with_reducible repeat first | apply zN | apply zD | apply zA); exact BK214.out⟩, ⟨by (with_reducible repeat first | apply zN | apply zD | apply zA); exact BK219.out⟩, ⟨by repeat (first | (with_reducible first | exact HB.out | apply yA | apply yN | apply yD | refine yS ?_ GE214.out | refine yS ?_ GE219.out) | exact HB.out)⟩⟩
 case rest =>
  ·
   clear HC12; (try clear c2); (try clear c2b0); (try clear c2b1); (try clear p2); (try clear c3); (try clear c5); (try clear c5b0); (try clear c5b1); (try clear c6); (try clear c6b0); (try clear c6b1); (try clear p6); (try clear c7); (try clear c8); (try clear c8b0); (try clear c8b1); (try clear c9); (try clear c9b0); (try clear c9b1); (try clear c23); (try clear c26); (try clear c26b0); (try clear c26b1); (try clear c27); (try clear c27b0); (try clear c27b1); (try clear hcz24_0); (try clear hcz24_1); (try clear hcz24_2); (try clear hcz24_3); (try clear hcz4_0); (try clear hcz4_1); (try clear hcz4_2); (try clear hcz4_3); (try clear hfz24_0); (try clear hfz24_1); (try clear hfz24_2); (try clear hfz24_3); (try clear hfz4_0); (try clear hfz4_1); (try clear hfz4_2); (try clear hfz4_3); obtain ⟨kq, x38_11, rfl, HA, HJ11, BK214, BK219, HB⟩ := hcut
   cases kq with
   | zero => exact absurd HA.out (by simp [tikref13_ReadSeg.j0])
   | succ kj11 =>
    have H := HA.out; clear HA; (simp only [tikref13_ReadSeg.j0] at H)
    by_cases c31 : x38_11 = true
    ·subst c31
     (have H1 : (some (0, 0, ([] : List (S127)), 0, 2)) = some (r1, r2, r3, r4, r5) := by rw [if_pos rfl] at H; exact H); clear H; have H := H1; clear H1; (simp only [Option.some.injEq, Prod.mk.injEq] at H); obtain ⟨rfl, rfl, rfl, rfl, rfl⟩ := H; have hnb32 := NB214_219.out; have hnc32 := NB219_214.out; have hcz33_0 : wc.cell? ⟨gb214, 0, none⟩ = some (.int .i64 0) := (blk_cell BK214.out 0).trans rfl; have hcz33_1 : wc.cell? ⟨gb214, 1, none⟩ = some (.int .u64 0) := (blk_cell BK214.out 1).trans rfl; have hcz33_2 : wc.cell? ⟨gb214, 2, none⟩ = some (.slice none 0 0) := (blk_cell BK214.out 2).trans rfl; have hcz33_3 : wc.cell? ⟨gb214, 3, none⟩ = some (.int .i64 0) := (blk_cell BK214.out 3).trans rfl; have hfz33_0 := blk_frozen BK214.out 0; have hfz33_1 := blk_frozen BK214.out 1; have hfz33_2 := blk_frozen BK214.out 2; have hfz33_3 := blk_frozen BK214.out 3
     go_wp2
     refine bodyPost_ret (results_ct rfl _ _ gb214 77 #[.int .i64 0, .int .u64 0, .slice none 0 0, .int .i64 0] (0, 0) _ rfl (by (with_reducible repeat first | apply zN | apply zD | apply zA); refine blk_put (cs := #[.int .i64 0, .int .u64 0, .slice none 0 0, .int .i64 0]) ?_ 3 _ rfl; (with_reducible repeat first | apply zN | apply zD | apply zA); refine blk_put (cs := #[.int .i64 0, .int .u64 0, .slice none 0 0, .int .i64 0]) ?_ 2 _ rfl; (with_reducible repeat first | apply zN | apply zD | apply zA); refine blk_put (cs := #[.int .i64 0, .int .u64 0, .slice none 0 0, .int .i64 0]) ?_ 1 _ rfl; (with_reducible repeat first | apply zN | apply zD | apply zA); refine blk_put (cs := #[.int .i64 0, .int .u64 0, .slice none 0 0, .int .i64 0]) ?_ 0 _ rfl; (with_reducible repeat first | apply zN | apply zD | apply zA); exact BK214.out) Tryd.underlying77 rfl (by kernel_rfl)) rfl ?_; exact ⟨_, by first | rfl | (simp [errW_none, errW_some] <;> rfl) | (simp [*, errW_none, errW_some] <;> rfl), by first | exact Kd.S_nil _ _ _ _ _ | exact Kd.N_nil _ _ _ _ _ | exact Kd.V_nil _ _ _ _ _ | exact Kd.Q_nil _ _ _ _ _ | exact Kd.R_nil _ _ _ _ _, by repeat (first | (with_reducible first | exact HB.out | apply yA | apply yN | apply yD | refine yS ?_ GE214.out | refine yS ?_ GE219.out) | exact HB.out)⟩
    replace c31 := Bool.eq_false_iff.mpr c31; subst c31; (have H1 : (tikref13_ReadSeg.l0 kj11 l0 (wrap64 (t216)) t218 ([] : List (S127)) 20) = some (r1, r2, r3, r4, r5) := by rw [if_neg (show ¬ (false = true) by decide)] at H; exact H); clear H; have H := H1; clear H1; have H' := Aside0.mk H; clear H
    go_wp2
    go_loopg [] kj11 (fun kq w' => ∃ (x215000_2 : Int) (x215001_2 : Int) (x215003_2 : Int) (x220002_2 : List (S127)) (x220003_2 : Int) (u220002 : Value), Aside0 (tikref13_ReadSeg.l0 kq l0 (wrap64 (t216)) t218 x220002_2 x220003_2 = some (r1, r2, r3, r4, r5)) ∧ Aside0 (kq ≤ kj11) ∧ Aside0 (Kd.S k127 127 w' w.heap.size (fun _ => True) u220002 x220002_2) ∧ Aside0 (w'.heap[gb214]? = some (.cells #[.int .i64 x215000_2, .int .u64 x215001_2, (.slice none 0 0), .int .i64 x215003_2] 77 (0, 0))) ∧ Aside0 (w'.heap[gb219]? = some (.cells #[.int .i64 (wrap64 (t216)), .int .u64 t218, u220002, .int .i64 x220003_2] 77 (0, 0))) ∧ Aside0 (Below w.heap.size w w'))
    case atStart => exact ⟨(0), (0), (0), (([] : List (S127))), (20), (.slice none 0 0), H', ⟨Nat.le_refl _⟩, ⟨by first | exact Kd.S_nil _ _ _ _ _ | exact Kd.N_nil _ _ _ _ _ | exact Kd.V_nil _ _ _ _ _ | exact Kd.Q_nil _ _ _ _ _ | exact Kd.R_nil _ _ _ _ _⟩, ⟨by (with_reducible repeat first | apply zN | apply zD | apply zA); exact BK214.out⟩, ⟨by (with_reducible repeat first | apply zN | apply zD | apply zA); exact BK219.out⟩, ⟨by repeat (first | (with_reducible first | exact HB.out | apply yA | apply yN | apply yD | refine yS ?_ GE214.out | refine yS ?_ GE219.out) | exact HB.out)⟩⟩
    case round =>
     ·
      clear H'; (try clear c2); (try clear c2b0); (try clear c2b1); (try clear p2); (try clear c3); (try clear c5); (try clear c5b0); (try clear c5b1); (try clear c6); (try clear c6b0); (try clear c6b1); (try clear p6); (try clear c7); (try clear c8); (try clear c8b0); (try clear c8b1); (try clear c9); (try clear c9b0); (try clear c9b1); (try clear c23); (try clear c26); (try clear c26b0); (try clear c26b1); (try clear c27); (try clear c27b0); (try clear c27b1); (try clear c31); (try clear c32); (try clear c33); (try clear hcz24_0); (try clear hcz24_1); (try clear hcz24_2); (try clear hcz24_3); (try clear hcz33_0); (try clear hcz33_1); (try clear hcz33_2); (try clear hcz33_3); (try clear hcz4_0); (try clear hcz4_1); (try clear hcz4_2); (try clear hcz4_3); (try clear hfz24_0); (try clear hfz24_1); (try clear hfz24_2); (try clear hfz24_3); (try clear hfz33_0); (try clear hfz33_1); (try clear hfz33_2); (try clear hfz33_3); (try clear hfz4_0); (try clear hfz4_1); (try clear hfz4_2); (try clear hfz4_3); (try clear p2); (try clear p6); obtain ⟨x215000_2, x215001_2, x215003_2, x220002_2, x220003_2, u220002, HA, HK2, HO_220002, BK214, BK219, HB⟩ := hrel
      cases gk with
      | zero => exact absurd HA.out (by simp [tikref13_ReadSeg.l0])
      | succ k2 =>
       have H := HA.out; clear HA; (simp only [tikref13_ReadSeg.l0] at H); replace H := Option.bind_eq_some_iff.mp H; obtain ⟨⟨t226, t227, t228, t229, t232, t233⟩, A340, H⟩ := H; replace H : (if t233 = 0 then (tikref13_ReadSeg.j2 k2 l0 t232 (t227 != (IntKind.u64.wrap (t218 + (IntKind.u64.wrap ((x220002_2.length : Int)))))) (wrap64 (t216)) t218 x220002_2 x220003_2 t226 t227 t228 t229) else (tikref13_ReadSeg.j2 k2 l0 t232 true (wrap64 (t216)) t218 x220002_2 x220003_2 t226 t227 t228 t229)) = some (r1, r2, r3, r4, r5) := H; have A34 := Aside0.mk A340; clear A340; have HC35 := Aside0.mk H; clear H; have hnb36 := NB219_214.out; have hnc36 := NB214_219.out; have hcz37_0 : wr.cell? ⟨gb219, 0, none⟩ = some (.int .i64 (wrap64 (t216))) := (blk_cell BK219.out 0).trans rfl; have hcz37_1 : wr.cell? ⟨gb219, 1, none⟩ = some (.int .u64 t218) := (blk_cell BK219.out 1).trans rfl; have hcz37_2 : wr.cell? ⟨gb219, 2, none⟩ = some (u220002) := (blk_cell BK219.out 2).trans rfl; have hcz37_3 : wr.cell? ⟨gb219, 3, none⟩ = some (.int .i64 x220003_2) := (blk_cell BK219.out 3).trans rfl; have hfz37_0 := blk_frozen BK219.out 0; have hfz37_1 := blk_frozen BK219.out 1; have hfz37_2 := blk_frozen BK219.out 2; have hfz37_3 := blk_frozen BK219.out 3
       go_upto_region 8 with (first | ((with_reducible refine gate_callee (f := 73) rfl ?_); refine goesL_ (some 44) rfl rfl Tryd.func73 (by kernel_rfl) rfl #[.slice A0 l0.length c0, .int .i64 x220003_2] rfl (by (try simp only [List.map_toArray, List.map_cons, List.map_nil]); first | done | rfl | (simp only [List.length_drop, List.length_take]; rfl)) ?_; (with_reducible refine (tikref13_DecodeRecord.calls _ _ l0 x220003_2 t226 t227 t228 t229 t232 t233 _ ?side1 ?side2 A34.out).mono ?_); (case side1 => repeat (first | exact (Kd.C_below HR0.out HB.out) | (with_reducible refine Kd.C_alloc ?_ _) | (with_reducible refine Kd.C_drewN ?_ _) | (with_reducible refine Kd.C_drew ?_))); (case side2 => exact HC0.out); rintro e w38 ⟨v230, rfl, ho0, hb⟩; refine ⟨_, rfl, ?_⟩; have n0_ := Aside0.mk (Kd.S_elder' (by (with_reducible repeat first | apply sA_ | apply sN_ | apply sD_); exact HO_220002.out) (Kd.R_base ho0) hb); have n1_ := Aside0.mk (Kd.R_lower ho0 (below_size (by repeat (first | (with_reducible first | exact HB.out | apply yA | apply yN | apply yD | refine yS ?_ GE214.out | refine yS ?_ GE219.out) | exact HB.out)))); have n2_ := Aside0.mk (blk_below (g := gb214) (o := .cells #[.int .i64 x215000_2, .int .u64 x215001_2, .slice none 0 0, .int .i64 x215003_2] 77 (0, 0)) (bx_ BK214) hb); have n3_ := Aside0.mk (blk_below (g := gb219) (o := .cells #[.int .i64 (wrap64 (t216)), .int .u64 t218, u220002, .int .i64 x220003_2] 77 (0, 0)) (bx_ BK219) hb); have n4_ := Aside0.mk (below_step (by repeat (first | (with_reducible first | exact HB.out | apply yA | apply yN | apply yD | refine yS ?_ GE214.out | refine yS ?_ GE219.out) | exact HB.out)) hb); clear HO_220002; clear BK214; clear BK219; clear HB; have HO_220002 := n0_; have HO231 := n1_; have BK214 := n2_; have BK219 := n3_; have HB := n4_; clear n0_ n1_ n2_ n3_ n4_; (try clear hb); (try clear hb2); (try clear hk); (try clear hi); (try clear ho0)) | ((with_reducible refine gate_dst (N := 7) rfl ?_); (try (refine gate_guard (by rfl) ?_; dsimp only)); refine box_event ?hg (N := 7) ?hd (cs := #[.int .i64 0, .int .u64 0, .int .u64 0, .slice none 0 0]) (t := 123) ?hr ?_; (case hd => rfl); (case hg => rfl); (case hr => first | (go_simp; done) | (go_simp; rfl)); intro gb234 hg w39 hbox hb; have n0_ := Aside0.mk (Kd.S_below (by (with_reducible repeat first | apply sA_ | apply sN_ | apply sD_); exact HO_220002.out) hb); have n1_ := Aside0.mk (Kd.R_below (rx_ HO231) hb); have n2_ := Aside0.mk (blk_below (g := gb214) (o := .cells #[.int .i64 x215000_2, .int .u64 x215001_2, .slice none 0 0, .int .i64 x215003_2] 77 (0, 0)) (bx_ BK214) hb); have n3_ := Aside0.mk (blk_below (g := gb219) (o := .cells #[.int .i64 (wrap64 (t216)), .int .u64 t218, u220002, .int .i64 x220003_2] 77 (0, 0)) (bx_ BK219) hb); have n4_ := Aside0.mk (below_step (by repeat (first | (with_reducible first | exact HB.out | apply yA | apply yN | apply yD | refine yS ?_ GE214.out | refine yS ?_ GE219.out) | exact HB.out)) hb); have n5_ := Aside0.mk (hbox); have n6_ := Aside0.mk ((by rw [hg]; exact (below_size (by repeat (first | (with_reducible first | exact HB.out | apply yA | apply yN | apply yD | refine yS ?_ GE214.out | refine yS ?_ GE219.out) | exact HB.out))) : w.heap.size ≤ gb234)); have n7_ := Aside0.mk ((by rw [hg]; exact (below_size (by repeat (first | (with_reducible first | exact HB.out | apply yA | apply yN | apply yD | refine yS ?_ GE214.out | refine yS ?_ GE219.out) | exact HB.out))) : w.heap.size ≤ gb234)); have n8_ := Aside0.mk ((by rw [hg]; exact Nat.ne_of_lt (blk_lt (g := gb214) (o := .cells #[.int .i64 x215000_2, .int .u64 x215001_2, .slice none 0 0, .int .i64 x215003_2] 77 (0, 0)) (bx_ BK214)) : gb214 ≠ gb234)); have n9_ := Aside0.mk ((by rw [hg]; exact Nat.ne_of_gt (blk_lt (g := gb214) (o := .cells #[.int .i64 x215000_2, .int .u64 x215001_2, .slice none 0 0, .int .i64 x215003_2] 77 (0, 0)) (bx_ BK214)) : gb234 ≠ gb214)); have n10_ := Aside0.mk ((by rw [hg]; exact Nat.ne_of_lt (blk_lt (g := gb219) (o := .cells #[.int .i64 (wrap64 (t216)), .int .u64 t218, u220002, .int .i64 x220003_2] 77 (0, 0)) (bx_ BK219)) : gb219 ≠ gb234)); have n11_ := Aside0.mk ((by rw [hg]; exact Nat.ne_of_gt (blk_lt (g := gb219) (o := .cells #[.int .i64 (wrap64 (t216)), .int .u64 t218, u220002, .int .i64 x220003_2] 77 (0, 0)) (bx_ BK219)) : gb234 ≠ gb219)); clear HO_220002; clear HO231; clear BK214; clear BK219; clear HB; have HO_220002 := n0_; have HO231 := n1_; have BK214 := n2_; have BK219 := n3_; have HB := n4_; have BK234 := n5_; have GW234 := n6_; have GE234 := n7_; have NB214_234 := n8_; have NB234_214 := n9_; have NB219_234 := n10_; have NB234_219 := n11_; clear n0_ n1_ n2_ n3_ n4_ n5_ n6_ n7_ n8_ n9_ n10_ n11_; clear hb hbox hg; have hnb40 := NB234_214.out; have hnc40 := NB214_234.out; have hnb41 := NB234_219.out; have hnc41 := NB219_234.out; have hcz42_0 : w39.cell? ⟨gb234, 0, none⟩ = some (.int .i64 0) := (blk_cell BK234.out 0).trans rfl; have hcz42_1 : w39.cell? ⟨gb234, 1, none⟩ = some (.int .u64 0) := (blk_cell BK234.out 1).trans rfl; have hcz42_2 : w39.cell? ⟨gb234, 2, none⟩ = some (.int .u64 0) := (blk_cell BK234.out 2).trans rfl; have hcz42_3 : w39.cell? ⟨gb234, 3, none⟩ = some (.slice none 0 0) := (blk_cell BK234.out 3).trans rfl; have hfz42_0 := blk_frozen BK234.out 0; have hfz42_1 := blk_frozen BK234.out 1; have hfz42_2 := blk_frozen BK234.out 2; have hfz42_3 := blk_frozen BK234.out 3; obtain ⟨Ao43, co43, eo43⟩ := Kd.R_slice HO231.out; subst eo43))
       (try simp only [Act.put, List.setIfInBounds_toArray, List.set_cons_zero, List.set_cons_succ])
       go_cut [61] (fun v61 wc => ∃ (kq : Nat) (x61_34 : Bool), v61 = .bool x61_34 ∧ Aside0 (tikref13_ReadSeg.j2 kq l0 t232 x61_34 (wrap64 (t216)) t218 x220002_2 x220003_2 t226 t227 t228 t229 = some (r1, r2, r3, r4, r5)) ∧ Aside0 (kq ≤ k2) ∧ Aside0 (Kd.S k127 127 wc w.heap.size (fun k_ => some k_ ≠ ((.slice Ao43 t229.length co43) : Value).ownBlock) u220002 x220002_2) ∧ Aside0 (Kd.R (Kd.int .u8) 5 wc w.heap.size (fun _ => True) (.slice Ao43 t229.length co43) t229) ∧ Aside0 (wc.heap[gb214]? = some (.cells #[.int .i64 x215000_2, .int .u64 x215001_2, (.slice none 0 0), .int .i64 x215003_2] 77 (0, 0))) ∧ Aside0 (wc.heap[gb219]? = some (.cells #[.int .i64 (wrap64 (t216)), .int .u64 t218, u220002, .int .i64 x220003_2] 77 (0, 0))) ∧ Aside0 (wc.heap[gb234]? = some (.cells #[.int .i64 t226, .int .u64 t227, .int .u64 t228, (.slice Ao43 t229.length co43)] 123 (0, 0))) ∧ Aside0 (Below w.heap.size w wc))
       case first =>
        have H := HC35.out; clear HC35
        by_cases c44 : t233 = 0
        rotate_left
        ·rw [if_neg c44] at H
         have c44b0 : (t233 == 0) = false := beq_eq_false_iff_ne.mpr c44; have c44b1 : (t233 != 0) = true := bne_iff_ne.mpr c44; (first | rw [c44b0] | (simp only [i64_w, i32_w]; rw [c44b0]) | skip); have H' := Aside0.mk H; clear H
         go_wp2
         go_meet
         case rel => exact ⟨_, (true), (by first | rfl | (simp; done) | (simp [*]; done)), H', ⟨by have := HJ11.out; have := HK2.out; first | omega | exact Nat.le_refl _⟩, ⟨by (with_reducible repeat first | apply sA_ | apply sN_ | apply sD_); exact Kd.S_mono (Kd.S_far (p := ⟨gb234, 3, none⟩) (Kd.S_far (p := ⟨gb234, 2, none⟩) (Kd.S_far (p := ⟨gb234, 1, none⟩) (Kd.S_far (p := ⟨gb234, 0, none⟩) (Kd.S_types HO_220002.out BK234.out (by decide)) (fun _ hk => hk.2) (.int .i64 t226)) (fun _ hk => hk.2) (.int .u64 t227)) (fun _ hk => hk.2) (.int .u64 t228)) (fun _ hk => hk.2) (.slice Ao43 t229.length co43)) (fun _ hk => hk.1.2)⟩, ⟨by (with_reducible repeat first | apply rA_ | apply rN_ | apply rD_); exact Kd.R_mono (Kd.R_far (p := ⟨gb234, 3, none⟩) (Kd.R_far (p := ⟨gb234, 2, none⟩) (Kd.R_far (p := ⟨gb234, 1, none⟩) (Kd.R_far (p := ⟨gb234, 0, none⟩) (Kd.R_types HO231.out BK234.out (by decide)) (fun _ hk => hk.2) (.int .i64 t226)) (fun _ hk => hk.2) (.int .u64 t227)) (fun _ hk => hk.2) (.int .u64 t228)) (fun _ hk => hk.2) (.slice Ao43 t229.length co43)) (fun _ hk => trivial)⟩, ⟨by (with_reducible repeat first | apply zN | apply zD | apply zA); refine blk_far ?_ NB214_234.out _; (with_reducible repeat first | apply zN | apply zD | apply zA); refine blk_far ?_ NB214_234.out _; (with_reducible repeat first | apply zN | apply zD | apply zA); refine blk_far ?_ NB214_234.out _; (with_reducible repeat first | apply zN | apply zD | apply zA); refine blk_far ?_ NB214_234.out _; (with_reducible repeat first | apply zN | apply zD | apply zA); exact BK214.out⟩, ⟨by (with_reducible repeat first | apply zN | apply zD | apply zA); refine blk_far ?_ NB219_234.out _; (with_reducible repeat first | apply zN | apply zD | apply zA); refine blk_far ?_ NB219_234.out _; (with_reducible repeat first | apply zN | apply zD | apply zA); refine blk_far ?_ NB219_234.out _; (with_reducible repeat first | apply zN | apply zD | apply zA); refine blk_far ?_ NB219_234.out _; (with_reducible repeat first | apply zN | apply zD | apply zA); exact BK219.out⟩, ⟨by (with_reducible repeat first | apply zN | apply zD | apply zA); refine blk_put (cs := #[.int .i64 t226, .int .u64 t227, .int .u64 t228, .slice none 0 0]) ?_ 3 _ rfl; (with_reducible repeat first | apply zN | apply zD | apply zA); refine blk_put (cs := #[.int .i64 t226, .int .u64 t227, .int .u64 0, .slice none 0 0]) ?_ 2 _ rfl; (with_reducible repeat first | apply zN | apply zD | apply zA); refine blk_put (cs := #[.int .i64 t226, .int .u64 0, .int .u64 0, .slice none 0 0]) ?_ 1 _ rfl; (with_reducible repeat first | apply zN | apply zD | apply zA); refine blk_put (cs := #[.int .i64 0, .int .u64 0, .int .u64 0, .slice none 0 0]) ?_ 0 _ rfl; (with_reducible repeat first | apply zN | apply zD | apply zA); exact BK234.out⟩, ⟨by repeat (first | (with_reducible first | exact HB.out | apply yA | apply yN | apply yD | refine yS ?_ GE214.out | refine yS ?_ GE219.out | refine yS ?_ GE234.out) | exact HB.out)⟩⟩
        (rw [if_pos c44] at H); have c44b0 : (t233 == 0) = true := beq_iff_eq.mpr c44; have c44b1 : (t233 != 0) = false := bne_eq_false_iff_eq.mpr c44; clear c44; (first | rw [c44b0] | (simp only [i64_w, i32_w]; rw [c44b0]) | skip); have H' := Aside0.mk H; clear H; have hnb45 := NB234_214.out; have hnc45 := NB214_234.out; have hnb46 := NB234_219.out; have hnc46 := NB219_234.out; have hcz47_0 : w39.cell? ⟨gb234, 0, none⟩ = some (.int .i64 0) := (blk_cell BK234.out 0).trans rfl; have hcz47_1 : w39.cell? ⟨gb234, 1, none⟩ = some (.int .u64 0) := (blk_cell BK234.out 1).trans rfl; have hcz47_2 : w39.cell? ⟨gb234, 2, none⟩ = some (.int .u64 0) := (blk_cell BK234.out 2).trans rfl; have hcz47_3 : w39.cell? ⟨gb234, 3, none⟩ = some (.slice none 0 0) := (blk_cell BK234.out 3).trans rfl; have hfz47_0 := blk_frozen BK234.out 0; have hfz47_1 := blk_frozen BK234.out 1; have hfz47_2 := blk_frozen BK234.out 2; have hfz47_3 := blk_frozen BK234.out 3; have hnb48 := NB219_214.out; have hnc48 := NB214_219.out; have hcz49_0 : w39.cell? ⟨gb219, 0, none⟩ = some (.int .i64 (wrap64 (t216))) := (blk_cell BK219.out 0).trans rfl; have hcz49_1 : w39.cell? ⟨gb219, 1, none⟩ = some (.int .u64 t218) := (blk_cell BK219.out 1).trans rfl; have hcz49_2 : w39.cell? ⟨gb219, 2, none⟩ = some (u220002) := (blk_cell BK219.out 2).trans rfl; have hcz49_3 : w39.cell? ⟨gb219, 3, none⟩ = some (.int .i64 x220003_2) := (blk_cell BK219.out 3).trans rfl; have hfz49_0 := blk_frozen BK219.out 0; have hfz49_1 := blk_frozen BK219.out 1; have hfz49_2 := blk_frozen BK219.out 2; have hfz49_3 := blk_frozen BK219.out 3; obtain ⟨Ao50, co50, eo50⟩ := Kd.S_slice HO_220002.out; subst eo50
        go_wp2
        go_meet
        case rel => exact ⟨_, ((t227 != (IntKind.u64.wrap (t218 + (IntKind.u64.wrap ((x220002_2.length : Int))))))), (by first | rfl | (simp; done) | (simp [*]; done)), H', ⟨by have := HJ11.out; have := HK2.out; first | omega | exact Nat.le_refl _⟩, ⟨by (with_reducible repeat first | apply sA_ | apply sN_ | apply sD_); exact Kd.S_mono (Kd.S_far (p := ⟨gb234, 3, none⟩) (Kd.S_far (p := ⟨gb234, 2, none⟩) (Kd.S_far (p := ⟨gb234, 1, none⟩) (Kd.S_far (p := ⟨gb234, 0, none⟩) (Kd.S_types HO_220002.out BK234.out (by decide)) (fun _ hk => hk.2) (.int .i64 t226)) (fun _ hk => hk.2) (.int .u64 t227)) (fun _ hk => hk.2) (.int .u64 t228)) (fun _ hk => hk.2) (.slice Ao43 t229.length co43)) (fun _ hk => hk.1.2)⟩, ⟨by (with_reducible repeat first | apply rA_ | apply rN_ | apply rD_); exact Kd.R_mono (Kd.R_far (p := ⟨gb234, 3, none⟩) (Kd.R_far (p := ⟨gb234, 2, none⟩) (Kd.R_far (p := ⟨gb234, 1, none⟩) (Kd.R_far (p := ⟨gb234, 0, none⟩) (Kd.R_types HO231.out BK234.out (by decide)) (fun _ hk => hk.2) (.int .i64 t226)) (fun _ hk => hk.2) (.int .u64 t227)) (fun _ hk => hk.2) (.int .u64 t228)) (fun _ hk => hk.2) (.slice Ao43 t229.length co43)) (fun _ hk => trivial)⟩, ⟨by (with_reducible repeat first | apply zN | apply zD | apply zA); refine blk_far ?_ NB214_234.out _; (with_reducible repeat first | apply zN | apply zD | apply zA); refine blk_far ?_ NB214_234.out _; (with_reducible repeat first | apply zN | apply zD | apply zA); refine blk_far ?_ NB214_234.out _; (with_reducible repeat first | apply zN | apply zD | apply zA); refine blk_far ?_ NB214_234.out _; (with_reducible repeat first | apply zN | apply zD | apply zA); exact BK214.out⟩, ⟨by (with_reducible repeat first | apply zN | apply zD | apply zA); refine blk_far ?_ NB219_234.out _; (with_reducible repeat first | apply zN | apply zD | apply zA); refine blk_far ?_ NB219_234.out _; (with_reducible repeat first | apply zN | apply zD | apply zA); refine blk_far ?_ NB219_234.out _; (with_reducible repeat first | apply zN | apply zD | apply zA); refine blk_far ?_ NB219_234.out _; (with_reducible repeat first | apply zN | apply zD | apply zA); exact BK219.out⟩, ⟨by (with_reducible repeat first | apply zN | apply zD | apply zA); refine blk_put (cs := #[.int .i64 t226, .int .u64 t227, .int .u64 t228, .slice none 0 0]) ?_ 3 _ rfl; (with_reducible repeat first | apply zN | apply zD | apply zA); refine blk_put (cs := #[.int .i64 t226, .int .u64 t227, .int .u64 0, .slice none 0 0]) ?_ 2 _ rfl; (with_reducible repeat first | apply zN | apply zD | apply zA); refine blk_put (cs := #[.int .i64 t226, .int .u64 0, .int .u64 0, .slice none 0 0]) ?_ 1 _ rfl; (with_reducible repeat first | apply zN | apply zD | apply zA); refine blk_put (cs := #[.int .i64 0, .int .u64 0, .int .u64 0, .slice none 0 0]) ?_ 0 _ rfl; (with_reducible repeat first | apply zN | apply zD | apply zA); exact BK234.out⟩, ⟨by repeat (first | (with_reducible first | exact HB.out | apply yA | apply yN | apply yD | refine yS ?_ GE214.out | refine yS ?_ GE219.out | refine yS ?_ GE234.out) | exact HB.out)⟩⟩
       case rest =>
        ·
         clear HC35; (try clear c2); (try clear c2b0); (try clear c2b1); (try clear p2); (try clear c3); (try clear c4); (try clear c5); (try clear c5b0); (try clear c5b1); (try clear c6); (try clear c6b0); (try clear c6b1); (try clear p6); (try clear c7); (try clear c8); (try clear c8b0); (try clear c8b1); (try clear c9); (try clear c9b0); (try clear c9b1); (try clear c23); (try clear c26); (try clear c26b0); (try clear c26b1); (try clear c27); (try clear c27b0); (try clear c27b1); (try clear c31); (try clear c32); (try clear c33); (try clear c35); (try clear c36); (try clear c40); (try clear c41); (try clear c44); (try clear c44b0); (try clear c44b1); (try clear c45); (try clear c46); (try clear c48); (try clear hcz24_0); (try clear hcz24_1); (try clear hcz24_2); (try clear hcz24_3); (try clear hcz33_0); (try clear hcz33_1); (try clear hcz33_2); (try clear hcz33_3); (try clear hcz37_0); (try clear hcz37_1); (try clear hcz37_2); (try clear hcz37_3); (try clear hcz42_0); (try clear hcz42_1); (try clear hcz42_2); (try clear hcz42_3); (try clear hcz47_0); (try clear hcz47_1); (try clear hcz47_2); (try clear hcz47_3); (try clear hcz49_0); (try clear hcz49_1); (try clear hcz49_2); (try clear hcz49_3); (try clear hcz4_0); (try clear hcz4_1); (try clear hcz4_2); (try clear hcz4_3); (try clear hfz24_0); (try clear hfz24_1); (try clear hfz24_2); (try clear hfz24_3); (try clear hfz33_0); (try clear hfz33_1); (try clear hfz33_2); (try clear hfz33_3); (try clear hfz37_0); (try clear hfz37_1); (try clear hfz37_2); (try clear hfz37_3); (try clear hfz42_0); (try clear hfz42_1); (try clear hfz42_2); (try clear hfz42_3); (try clear hfz47_0); (try clear hfz47_1); (try clear hfz47_2); (try clear hfz47_3); (try clear hfz49_0); (try clear hfz49_1); (try clear hfz49_2); (try clear hfz49_3); (try clear hfz4_0); (try clear hfz4_1); (try clear hfz4_2); (try clear hfz4_3); (try clear p2); (try clear p6); obtain ⟨kq, x61_34, rfl, HA, HJ34, HO_220002, HO_235003, BK214, BK219, BK234, HB⟩ := hcut
         cases kq with
         | zero => exact absurd HA.out (by simp [tikref13_ReadSeg.j2])
         | succ kj34 =>
          have H := HA.out; clear HA; (simp only [tikref13_ReadSeg.j2] at H)
          by_cases c51 : x61_34 = true
          ·subst c51
           (have H1 : (some ((wrap64 (t216)), t218, x220002_2, x220003_2, 0)) = some (r1, r2, r3, r4, r5) := by rw [if_pos rfl] at H; exact H); clear H; have H := H1; clear H1; (simp only [Option.some.injEq, Prod.mk.injEq] at H); obtain ⟨rfl, rfl, rfl, rfl, rfl⟩ := H; have hnb52 := NB219_214.out; have hnc52 := NB214_219.out; have hnb53 := NB219_234.out; have hnc53 := NB234_219.out; have hcz54_0 : wc.cell? ⟨gb219, 0, none⟩ = some (.int .i64 (wrap64 (t216))) := (blk_cell BK219.out 0).trans rfl; have hcz54_1 : wc.cell? ⟨gb219, 1, none⟩ = some (.int .u64 t218) := (blk_cell BK219.out 1).trans rfl; have hcz54_2 : wc.cell? ⟨gb219, 2, none⟩ = some (u220002) := (blk_cell BK219.out 2).trans rfl; have hcz54_3 : wc.cell? ⟨gb219, 3, none⟩ = some (.int .i64 x220003_2) := (blk_cell BK219.out 3).trans rfl; have hfz54_0 := blk_frozen BK219.out 0; have hfz54_1 := blk_frozen BK219.out 1; have hfz54_2 := blk_frozen BK219.out 2; have hfz54_3 := blk_frozen BK219.out 3; have hnb55 := NB214_234.out; have hnc55 := NB234_214.out; have hcz56_0 : wc.cell? ⟨gb214, 0, none⟩ = some (.int .i64 x215000_2) := (blk_cell BK214.out 0).trans rfl; have hcz56_1 : wc.cell? ⟨gb214, 1, none⟩ = some (.int .u64 x215001_2) := (blk_cell BK214.out 1).trans rfl; have hcz56_2 : wc.cell? ⟨gb214, 2, none⟩ = some (.slice none 0 0) := (blk_cell BK214.out 2).trans rfl; have hcz56_3 : wc.cell? ⟨gb214, 3, none⟩ = some (.int .i64 x215003_2) := (blk_cell BK214.out 3).trans rfl; have hfz56_0 := blk_frozen BK214.out 0; have hfz56_1 := blk_frozen BK214.out 1; have hfz56_2 := blk_frozen BK214.out 2; have hfz56_3 := blk_frozen BK214.out 3; obtain ⟨Ao57, co57, eo57⟩ := Kd.S_slice HO_220002.out; subst eo57
           go_wp2
           refine bodyPost_ret (results_ct rfl _ _ gb214 77 #[.int .i64 (wrap64 (t216)), .int .u64 t218, .slice Ao57 x220002_2.length co57, .int .i64 x220003_2] (0, 0) _ rfl (by (with_reducible repeat first | apply zN | apply zD | apply zA); refine blk_put (cs := #[.int .i64 (wrap64 (t216)), .int .u64 t218, .slice Ao57 x220002_2.length co57, .int .i64 x215003_2]) ?_ 3 _ rfl; (with_reducible repeat first | apply zN | apply zD | apply zA); refine blk_put (cs := #[.int .i64 (wrap64 (t216)), .int .u64 t218, .slice none 0 0, .int .i64 x215003_2]) ?_ 2 _ rfl; (with_reducible repeat first | apply zN | apply zD | apply zA); refine blk_put (cs := #[.int .i64 (wrap64 (t216)), .int .u64 x215001_2, .slice none 0 0, .int .i64 x215003_2]) ?_ 1 _ rfl; (with_reducible repeat first | apply zN | apply zD | apply zA); refine blk_put (cs := #[.int .i64 x215000_2, .int .u64 x215001_2, .slice none 0 0, .int .i64 x215003_2]) ?_ 0 _ rfl; (with_reducible repeat first | apply zN | apply zD | apply zA); exact BK214.out) Tryd.underlying77 rfl (by kernel_rfl)) rfl ?_; exact ⟨_, by first | rfl | (simp [errW_none, errW_some] <;> rfl) | (simp [*, errW_none, errW_some] <;> rfl), by (with_reducible repeat first | apply sA_ | apply sN_ | apply sD_); exact Kd.S_mono (Kd.S_far (p := ⟨gb214, 3, none⟩) (Kd.S_far (p := ⟨gb214, 2, none⟩) (Kd.S_far (p := ⟨gb214, 1, none⟩) (Kd.S_far (p := ⟨gb214, 0, none⟩) (Kd.S_types HO_220002.out BK214.out (by decide)) (fun _ hk => hk.2) (.int .i64 (wrap64 (t216)))) (fun _ hk => hk.2) (.int .u64 t218)) (fun _ hk => hk.2) (.slice Ao57 x220002_2.length co57)) (fun _ hk => hk.2) (.int .i64 x220003_2)) (fun _ hk => trivial), by repeat (first | (with_reducible first | exact HB.out | apply yA | apply yN | apply yD | refine yS ?_ GE214.out | refine yS ?_ GE219.out | refine yS ?_ GE234.out) | exact HB.out)⟩
          replace c51 := Bool.eq_false_iff.mpr c51; subst c51; (have H1 : (if (x220002_2.length : Int) = 0 then (if t226 = 1 then (if (x220002_2.length : Int) > 0 then (if 0 ≤ (wrap64 ((x220002_2.length : Int) - 1)) then (if (wrap64 ((x220002_2.length : Int) - 1)) < (x220002_2.length : Int) then (tikref13_ReadSeg.j3 kj34 l0 t232 (decide (t228 < ((rd_T127 x220002_2 (wrap64 ((x220002_2.length : Int) - 1))).f0.f2))) (wrap64 (t216)) t218 x220002_2 x220003_2 t226 t227 t228 t229) else (none)) else (none)) else (tikref13_ReadSeg.j3 kj34 l0 t232 false (wrap64 (t216)) t218 x220002_2 x220003_2 t226 t227 t228 t229)) else (tikref13_ReadSeg.j3 kj34 l0 t232 true (wrap64 (t216)) t218 x220002_2 x220003_2 t226 t227 t228 t229)) else (if (x220002_2.length : Int) > 0 then (if 0 ≤ (wrap64 ((x220002_2.length : Int) - 1)) then (if (wrap64 ((x220002_2.length : Int) - 1)) < (x220002_2.length : Int) then (tikref13_ReadSeg.j3 kj34 l0 t232 (decide (t228 < ((rd_T127 x220002_2 (wrap64 ((x220002_2.length : Int) - 1))).f0.f2))) (wrap64 (t216)) t218 x220002_2 x220003_2 t226 t227 t228 t229) else (none)) else (none)) else (tikref13_ReadSeg.j3 kj34 l0 t232 false (wrap64 (t216)) t218 x220002_2 x220003_2 t226 t227 t228 t229))) = some (r1, r2, r3, r4, r5) := by rw [if_neg (show ¬ (false = true) by decide)] at H; exact H); clear H; have H := H1; clear H1; have HC58 := Aside0.mk H; clear H
          go_upto_region 10 with (fail)
          go_cut [92] (fun v92 wc => ∃ (kq : Nat) (x92_57 : Bool), v92 = .bool x92_57 ∧ Aside0 (tikref13_ReadSeg.j3 kq l0 t232 x92_57 (wrap64 (t216)) t218 x220002_2 x220003_2 t226 t227 t228 t229 = some (r1, r2, r3, r4, r5)) ∧ Aside0 (kq ≤ kj34) ∧ Aside0 (Kd.S k127 127 wc w.heap.size (fun k_ => some k_ ≠ ((.slice Ao43 t229.length co43) : Value).ownBlock) u220002 x220002_2) ∧ Aside0 (Kd.R (Kd.int .u8) 5 wc w.heap.size (fun _ => True) (.slice Ao43 t229.length co43) t229) ∧ Aside0 (wc.heap[gb214]? = some (.cells #[.int .i64 x215000_2, .int .u64 x215001_2, (.slice none 0 0), .int .i64 x215003_2] 77 (0, 0))) ∧ Aside0 (wc.heap[gb219]? = some (.cells #[.int .i64 (wrap64 (t216)), .int .u64 t218, u220002, .int .i64 x220003_2] 77 (0, 0))) ∧ Aside0 (wc.heap[gb234]? = some (.cells #[.int .i64 t226, .int .u64 t227, .int .u64 t228, (.slice Ao43 t229.length co43)] 123 (0, 0))) ∧ Aside0 (Below w.heap.size w wc))
          case first =>
           have H := HC58.out; clear HC58
           by_cases c59 : (x220002_2.length : Int) = 0
           rotate_left
           ·rw [if_neg c59] at H
            have c59b0 : ((x220002_2.length : Int) == 0) = false := beq_eq_false_iff_ne.mpr c59; have c59b1 : ((x220002_2.length : Int) != 0) = true := bne_iff_ne.mpr c59; (have c59b2 : ¬ (x220002_2 = []) := fun h_ => c59 (by rw [h_]; rfl)); (first | rw [c59b0] | (simp only [i64_w, i32_w]; rw [c59b0]) | skip)
            by_cases c71 : (x220002_2.length : Int) > 0
            rotate_left
            ·rw [if_neg c71] at H
             have c71b0 : decide (0 < (x220002_2.length : Int)) = false := decide_eq_false c71; have c71b1 : decide (0 < x220002_2.length) = false := decide_eq_false (by omega); clear c71; have H' := Aside0.mk H; clear H
             try go_wp2
             have n0_ := Aside0.mk (Kd.S_drew HO_220002.out); have n1_ := Aside0.mk (Kd.R_drew HO_235003.out); have n2_ := Aside0.mk (blk_drew BK214.out); have n3_ := Aside0.mk (blk_drew BK219.out); have n4_ := Aside0.mk (blk_drew BK234.out); have n5_ := Aside0.mk (below_drew1 HB.out); clear HO_220002; clear HO_235003; clear BK214; clear BK219; clear BK234; clear HB; have HO_220002 := n0_; have HO_235003 := n1_; have BK214 := n2_; have BK219 := n3_; have BK234 := n4_; have HB := n5_; clear n0_ n1_ n2_ n3_ n4_ n5_; obtain ⟨Ao78, co78, eo78⟩ := Kd.S_slice HO_220002.out; (first | subst eo78 | (injection eo78 with f1_ f2_ f3_; have f4_ := f1_.symm; have f5_ := f3_.symm; clear f1_ f2_ f3_; subst f4_; subst f5_)); refine start_ (n := 30) (S := fun w' => w'.cell? ⟨gb219, 0, none⟩ = some (.int .i64 (wrap64 (t216))) ∧ w'.cell? ⟨gb219, 1, none⟩ = some (.int .u64 t218) ∧ w'.cell? ⟨gb219, 2, none⟩ = some (.slice Ao78 x220002_2.length co78) ∧ w'.cell? ⟨gb219, 3, none⟩ = some (.int .i64 x220003_2)) (ds := []) #[false, false, false, false, false, false, false, false, false, false, false, false, false, false, false, false, false, false, false, false, false, false, false, false, false, false, false, false, false, false] (by kernel_rfl) rfl rfl ⟨(blk_cell BK219.out 0).trans rfl, (blk_cell BK219.out 1).trans rfl, (blk_cell BK219.out 2).trans rfl, (blk_cell BK219.out 3).trans rfl⟩ (fun hHeld => ?_); refine with_tabW tikref13_ReadSeg.tab10 tikref13_ReadSeg.bits10 (fun HT_ HW_ => ?_); (generalize wc.drew = w77 at HO_220002 HO_235003 BK214 BK219 BK234 HB hHeld ⊢); refine pure_ (i := 0) (N := some 63) (v := ?_) (a' := ?_) #[true, false, false, false, false, false, false, false, false, false, false, false, false, false, false, false, false, false, false, false, false, false, false, false, false, false, false, false, false, false] rfl rfl (any_of HT_.out (by kernel_rfl)) (fun _ _ _ h => h) (Or.inl ⟨by rfl, ?_⟩) ?_ ?_
             rotate_left
             ·intro w'
              go_simp
              with_reducible rfl
             rotate_left
             ·simp only [Act.put, List.setIfInBounds_toArray, List.set_cons_zero, List.set_cons_succ, i64_w, i32_w]
              rfl
             refine take_ (i := 1) (N := some 64) (v := ?_) (a' := ?_) #[true, true, false, false, false, false, false, false, false, false, false, false, false, false, false, false, false, false, false, false, false, false, false, false, false, false, false, false, false, false] rfl rfl (take_ofW HT_.out HW_.out (by kernel_rfl)) (fun _ _ _ h => h) (Or.inl ⟨by rfl, ?_⟩) hHeld ?_ ?_
             rotate_left
             ·rintro w' ⟨s0, s1, s2, s3⟩
              go_simp
              with_reducible rfl
             rotate_left
             ·simp only [Act.put, List.setIfInBounds_toArray, List.set_cons_zero, List.set_cons_succ, i64_w, i32_w]
              rfl
             refine pure_ (i := 2) (N := some 65) (v := ?_) (a' := ?_) #[true, true, true, false, false, false, false, false, false, false, false, false, false, false, false, false, false, false, false, false, false, false, false, false, false, false, false, false, false, false] rfl rfl (any_of HT_.out (by kernel_rfl)) (fun _ _ _ h => h) (Or.inl ⟨by rfl, ?_⟩) ?_ ?_
             rotate_left
             ·intro w'
              go_simp
              with_reducible rfl
             rotate_left
             ·simp only [Act.put, List.setIfInBounds_toArray, List.set_cons_zero, List.set_cons_succ, i64_w, i32_w]
              rfl
             refine pure_ (i := 3) (N := some 66) (v := ?_) (a' := ?_) #[true, true, true, true, false, false, false, false, false, false, false, false, false, false, false, false, false, false, false, false, false, false, false, false, false, false, false, false, false, false] rfl rfl (any_of HT_.out (by kernel_rfl)) (fun _ _ _ h => h) (Or.inl ⟨by rfl, ?_⟩) ?_ ?_
             rotate_left
             ·intro w'
              go_simp
              with_reducible rfl
             rotate_left
             ·simp only [Act.put, List.setIfInBounds_toArray, List.set_cons_zero, List.set_cons_succ, i64_w, i32_w]
              rfl
             refine pure_ (i := 4) (N := some 67) (v := ?_) (a' := ?_) #[true, true, true, true, true, false, false, false, false, false, false, false, false, false, false, false, false, false, false, false, false, false, false, false, false, false, false, false, false, false] rfl rfl (any_of HT_.out (by kernel_rfl)) (fun _ _ _ h => h) (Or.inl ⟨by rfl, ?_⟩) ?_ ?_
             rotate_left
             ·intro w'
              go_simp
              with_reducible rfl
             rotate_left
             ·simp only [Act.put, List.setIfInBounds_toArray, List.set_cons_zero, List.set_cons_succ, i64_w, i32_w]
              rfl
             refine pure_ (i := 5) (N := some 68) (v := undef) (a' := ?_) #[true, true, true, true, true, true, false, false, false, false, false, false, false, false, false, false, false, false, false, false, false, false, false, false, false, false, false, false, false, false] rfl rfl (any_of HT_.out (by kernel_rfl)) (fun _ _ _ h => h) (Or.inr ⟨by rfl, rfl⟩) ?_ ?_
             rotate_left
             ·simp only [Act.put, List.setIfInBounds_toArray, List.set_cons_zero, List.set_cons_succ, i64_w, i32_w]
              rfl
             refine pure_ (i := 6) (N := some 69) (v := undef) (a' := ?_) #[true, true, true, true, true, true, true, false, false, false, false, false, false, false, false, false, false, false, false, false, false, false, false, false, false, false, false, false, false, false] rfl rfl (any_of HT_.out (by kernel_rfl)) (fun _ _ _ h => h) (Or.inr ⟨by rfl, rfl⟩) ?_ ?_
             rotate_left
             ·simp only [Act.put, List.setIfInBounds_toArray, List.set_cons_zero, List.set_cons_succ, i64_w, i32_w]
              rfl
             refine pure_ (i := 7) (N := some 70) (v := undef) (a' := ?_) #[true, true, true, true, true, true, true, true, false, false, false, false, false, false, false, false, false, false, false, false, false, false, false, false, false, false, false, false, false, false] rfl rfl (any_of HT_.out (by kernel_rfl)) (fun _ _ _ h => h) (Or.inr ⟨by rfl, rfl⟩) ?_ ?_
             rotate_left
             ·simp only [Act.put, List.setIfInBounds_toArray, List.set_cons_zero, List.set_cons_succ, i64_w, i32_w]
              rfl
             refine pure_ (i := 8) (N := some 71) (v := ?_) (a' := ?_) #[true, true, true, true, true, true, true, true, true, false, false, false, false, false, false, false, false, false, false, false, false, false, false, false, false, false, false, false, false, false] rfl rfl (any_of HT_.out (by kernel_rfl)) (fun _ _ _ h => h) (Or.inl ⟨by rfl, ?_⟩) ?_ ?_
             rotate_left
             ·intro w'
              go_simp
              with_reducible rfl
             rotate_left
             ·simp only [Act.put, List.setIfInBounds_toArray, List.set_cons_zero, List.set_cons_succ, i64_w, i32_w]
              rfl
             refine pure_ (i := 9) (N := some 72) (v := ?_) (a' := ?_) #[true, true, true, true, true, true, true, true, true, true, false, false, false, false, false, false, false, false, false, false, false, false, false, false, false, false, false, false, false, false] rfl rfl (any_of HT_.out (by kernel_rfl)) (fun _ _ _ h => h) (Or.inl ⟨by rfl, ?_⟩) ?_ ?_
             rotate_left
             ·intro w'
              go_simp
              with_reducible rfl
             rotate_left
             ·simp only [Act.put, List.setIfInBounds_toArray, List.set_cons_zero, List.set_cons_succ, i64_w, i32_w]
              rfl
             refine pure_ (i := 10) (N := some 73) (v := ?_) (a' := ?_) #[true, true, true, true, true, true, true, true, true, true, true, false, false, false, false, false, false, false, false, false, false, false, false, false, false, false, false, false, false, false] rfl rfl (any_of HT_.out (by kernel_rfl)) (fun _ _ _ h => h) (Or.inl ⟨by rfl, ?_⟩) ?_ ?_
             rotate_left
             ·intro w'
              go_simp
              with_reducible rfl
             rotate_left
             ·simp only [Act.put, List.setIfInBounds_toArray, List.set_cons_zero, List.set_cons_succ, i64_w, i32_w]
              rfl
             refine take_ (i := 11) (N := some 74) (v := ?_) (a' := ?_) #[true, true, true, true, true, true, true, true, true, true, true, true, false, false, false, false, false, false, false, false, false, false, false, false, false, false, false, false, false, false] rfl rfl (take_ofW HT_.out HW_.out (by kernel_rfl)) (fun _ _ _ h => h) (Or.inl ⟨by rfl, ?_⟩) hHeld ?_ ?_
             rotate_left
             ·rintro w' ⟨s0, s1, s2, s3⟩
              go_simp
              with_reducible rfl
             rotate_left
             ·simp only [Act.put, List.setIfInBounds_toArray, List.set_cons_zero, List.set_cons_succ, i64_w, i32_w]
              rfl
             refine pure_ (i := 12) (N := some 75) (v := ?_) (a' := ?_) #[true, true, true, true, true, true, true, true, true, true, true, true, true, false, false, false, false, false, false, false, false, false, false, false, false, false, false, false, false, false] rfl rfl (any_of HT_.out (by kernel_rfl)) (fun _ _ _ h => h) (Or.inl ⟨by rfl, ?_⟩) ?_ ?_
             rotate_left
             ·intro w'
              go_simp
              with_reducible rfl
             rotate_left
             ·simp only [Act.put, List.setIfInBounds_toArray, List.set_cons_zero, List.set_cons_succ, i64_w, i32_w]
              rfl
             refine pure_ (i := 13) (N := some 76) (v := ?_) (a' := ?_) #[true, true, true, true, true, true, true, true, true, true, true, true, true, true, false, false, false, false, false, false, false, false, false, false, false, false, false, false, false, false] rfl rfl (any_of HT_.out (by kernel_rfl)) (fun _ _ _ h => h) (Or.inl ⟨by rfl, ?_⟩) ?_ ?_
             rotate_left
             ·intro w'
              go_simp
              with_reducible rfl
             rotate_left
             ·simp only [Act.put, List.setIfInBounds_toArray, List.set_cons_zero, List.set_cons_succ, i64_w, i32_w]
              rfl
             refine pure_ (i := 14) (N := some 77) (v := ?_) (a' := ?_) #[true, true, true, true, true, true, true, true, true, true, true, true, true, true, true, false, false, false, false, false, false, false, false, false, false, false, false, false, false, false] rfl rfl (any_of HT_.out (by kernel_rfl)) (fun _ _ _ h => h) (Or.inl ⟨by rfl, ?_⟩) ?_ ?_
             rotate_left
             ·intro w'
              go_simp
              with_reducible rfl
             rotate_left
             ·simp only [Act.put, List.setIfInBounds_toArray, List.set_cons_zero, List.set_cons_succ, i64_w, i32_w]
              rfl
             refine pure_ (i := 15) (N := some 78) (v := undef) (a' := ?_) #[true, true, true, true, true, true, true, true, true, true, true, true, true, true, true, true, false, false, false, false, false, false, false, false, false, false, false, false, false, false] rfl rfl (any_of HT_.out (by kernel_rfl)) (fun _ _ _ h => h) (Or.inr ⟨by rfl, rfl⟩) ?_ ?_
             rotate_left
             ·simp only [Act.put, List.setIfInBounds_toArray, List.set_cons_zero, List.set_cons_succ, i64_w, i32_w]
              rfl
             refine pure_ (i := 16) (N := some 79) (v := undef) (a' := ?_) #[true, true, true, true, true, true, true, true, true, true, true, true, true, true, true, true, true, false, false, false, false, false, false, false, false, false, false, false, false, false] rfl rfl (any_of HT_.out (by kernel_rfl)) (fun _ _ _ h => h) (Or.inr ⟨by rfl, rfl⟩) ?_ ?_
             rotate_left
             ·simp only [Act.put, List.setIfInBounds_toArray, List.set_cons_zero, List.set_cons_succ, i64_w, i32_w]
              rfl
             refine pure_ (i := 17) (N := some 80) (v := undef) (a' := ?_) #[true, true, true, true, true, true, true, true, true, true, true, true, true, true, true, true, true, true, false, false, false, false, false, false, false, false, false, false, false, false] rfl rfl (any_of HT_.out (by kernel_rfl)) (fun _ _ _ h => h) (Or.inr ⟨by rfl, rfl⟩) ?_ ?_
             rotate_left
             ·simp only [Act.put, List.setIfInBounds_toArray, List.set_cons_zero, List.set_cons_succ, i64_w, i32_w]
              rfl
             refine pure_ (i := 18) (N := some 81) (v := undef) (a' := ?_) #[true, true, true, true, true, true, true, true, true, true, true, true, true, true, true, true, true, true, true, false, false, false, false, false, false, false, false, false, false, false] rfl rfl (any_of HT_.out (by kernel_rfl)) (fun _ _ _ h => h) (Or.inr ⟨by rfl, rfl⟩) ?_ ?_
             rotate_left
             ·simp only [Act.put, List.setIfInBounds_toArray, List.set_cons_zero, List.set_cons_succ, i64_w, i32_w]
              rfl
             refine pure_ (i := 19) (N := some 82) (v := undef) (a' := ?_) #[true, true, true, true, true, true, true, true, true, true, true, true, true, true, true, true, true, true, true, true, false, false, false, false, false, false, false, false, false, false] rfl rfl (any_of HT_.out (by kernel_rfl)) (fun _ _ _ h => h) (Or.inr ⟨by rfl, rfl⟩) ?_ ?_
             rotate_left
             ·simp only [Act.put, List.setIfInBounds_toArray, List.set_cons_zero, List.set_cons_succ, i64_w, i32_w]
              rfl
             refine pure_ (i := 20) (N := some 83) (v := undef) (a' := ?_) #[true, true, true, true, true, true, true, true, true, true, true, true, true, true, true, true, true, true, true, true, true, false, false, false, false, false, false, false, false, false] rfl rfl (any_of HT_.out (by kernel_rfl)) (fun _ _ _ h => h) (Or.inr ⟨by rfl, rfl⟩) ?_ ?_
             rotate_left
             ·simp only [Act.put, List.setIfInBounds_toArray, List.set_cons_zero, List.set_cons_succ, i64_w, i32_w]
              rfl
             refine pure_ (i := 21) (N := some 84) (v := undef) (a' := ?_) #[true, true, true, true, true, true, true, true, true, true, true, true, true, true, true, true, true, true, true, true, true, true, false, false, false, false, false, false, false, false] rfl rfl (any_of HT_.out (by kernel_rfl)) (fun _ _ _ h => h) (Or.inr ⟨by rfl, rfl⟩) ?_ ?_
             rotate_left
             ·simp only [Act.put, List.setIfInBounds_toArray, List.set_cons_zero, List.set_cons_succ, i64_w, i32_w]
              rfl
             refine pure_ (i := 22) (N := some 85) (v := undef) (a' := ?_) #[true, true, true, true, true, true, true, true, true, true, true, true, true, true, true, true, true, true, true, true, true, true, true, false, false, false, false, false, false, false] rfl rfl (any_of HT_.out (by kernel_rfl)) (fun _ _ _ h => h) (Or.inr ⟨by rfl, rfl⟩) ?_ ?_
             rotate_left
             ·simp only [Act.put, List.setIfInBounds_toArray, List.set_cons_zero, List.set_cons_succ, i64_w, i32_w]
              rfl
             refine pure_ (i := 23) (N := some 86) (v := undef) (a' := ?_) #[true, true, true, true, true, true, true, true, true, true, true, true, true, true, true, true, true, true, true, true, true, true, true, true, false, false, false, false, false, false] rfl rfl (any_of HT_.out (by kernel_rfl)) (fun _ _ _ h => h) (Or.inr ⟨by rfl, rfl⟩) ?_ ?_
             rotate_left
             ·simp only [Act.put, List.setIfInBounds_toArray, List.set_cons_zero, List.set_cons_succ, i64_w, i32_w]
              rfl
             refine pure_ (i := 24) (N := some 87) (v := undef) (a' := ?_) #[true, true, true, true, true, true, true, true, true, true, true, true, true, true, true, true, true, true, true, true, true, true, true, true, true, false, false, false, false, false] rfl rfl (any_of HT_.out (by kernel_rfl)) (fun _ _ _ h => h) (Or.inr ⟨by rfl, rfl⟩) ?_ ?_
             rotate_left
             ·simp only [Act.put, List.setIfInBounds_toArray, List.set_cons_zero, List.set_cons_succ, i64_w, i32_w]
              rfl
             refine pure_ (i := 25) (N := some 88) (v := undef) (a' := ?_) #[true, true, true, true, true, true, true, true, true, true, true, true, true, true, true, true, true, true, true, true, true, true, true, true, true, true, false, false, false, false] rfl rfl (any_of HT_.out (by kernel_rfl)) (fun _ _ _ h => h) (Or.inr ⟨by rfl, rfl⟩) ?_ ?_
             rotate_left
             ·simp only [Act.put, List.setIfInBounds_toArray, List.set_cons_zero, List.set_cons_succ, i64_w, i32_w]
              rfl
             refine pure_ (i := 26) (N := some 89) (v := undef) (a' := ?_) #[true, true, true, true, true, true, true, true, true, true, true, true, true, true, true, true, true, true, true, true, true, true, true, true, true, true, true, false, false, false] rfl rfl (any_of HT_.out (by kernel_rfl)) (fun _ _ _ h => h) (Or.inr ⟨by rfl, rfl⟩) ?_ ?_
             rotate_left
             ·simp only [Act.put, List.setIfInBounds_toArray, List.set_cons_zero, List.set_cons_succ, i64_w, i32_w]
              rfl
             refine pure_ (i := 27) (N := some 90) (v := undef) (a' := ?_) #[true, true, true, true, true, true, true, true, true, true, true, true, true, true, true, true, true, true, true, true, true, true, true, true, true, true, true, true, false, false] rfl rfl (any_of HT_.out (by kernel_rfl)) (fun _ _ _ h => h) (Or.inr ⟨by rfl, rfl⟩) ?_ ?_
             rotate_left
             ·simp only [Act.put, List.setIfInBounds_toArray, List.set_cons_zero, List.set_cons_succ, i64_w, i32_w]
              rfl
             refine pure_ (i := 28) (N := some 91) (v := ?_) (a' := ?_) #[true, true, true, true, true, true, true, true, true, true, true, true, true, true, true, true, true, true, true, true, true, true, true, true, true, true, true, true, true, false] rfl rfl (any_of HT_.out (by kernel_rfl)) (fun _ _ _ h => h) (Or.inl ⟨by rfl, ?_⟩) ?_ ?_
             rotate_left
             ·intro w'
              go_simp
              with_reducible rfl
             rotate_left
             ·simp only [Act.put, List.setIfInBounds_toArray, List.set_cons_zero, List.set_cons_succ, i64_w, i32_w]
              rfl
             refine pure_ (i := 29) (N := some 92) (v := ?_) (a' := ?_) #[true, true, true, true, true, true, true, true, true, true, true, true, true, true, true, true, true, true, true, true, true, true, true, true, true, true, true, true, true, true] rfl rfl (any_of HT_.out (by kernel_rfl)) (fun _ _ _ h => h) (Or.inl ⟨by rfl, ?_⟩) ?_ ?_
             rotate_left
             ·intro w'
              go_simp
              with_reducible rfl
             rotate_left
             ·simp only [Act.put, List.setIfInBounds_toArray, List.set_cons_zero, List.set_cons_succ, i64_w, i32_w]
              rfl
             refine done_ (done_of HT_.out (by kernel_rfl)) ?_
             try go_wp2
             go_meet
             case rel => exact ⟨_, (false), (by first | rfl | (simp; done) | (simp [*]; done)), H', ⟨by have := HJ11.out; have := HK2.out; have := HJ34.out; first | omega | exact Nat.le_refl _⟩, ⟨by (with_reducible repeat first | apply sA_ | apply sN_ | apply sD_); exact HO_220002.out⟩, ⟨by (with_reducible repeat first | apply rA_ | apply rN_ | apply rD_); exact HO_235003.out⟩, ⟨by (with_reducible repeat first | apply zN | apply zD | apply zA); exact BK214.out⟩, ⟨by (with_reducible repeat first | apply zN | apply zD | apply zA); exact BK219.out⟩, ⟨by (with_reducible repeat first | apply zN | apply zD | apply zA); exact BK234.out⟩, ⟨by repeat (first | (with_reducible first | exact HB.out | apply yA | apply yN | apply yD | refine yS ?_ GE214.out | refine yS ?_ GE219.out | refine yS ?_ GE234.out) | exact HB.out)⟩⟩
            (rw [if_pos c71] at H); have c71b0 : decide (0 < (x220002_2.length : Int)) = true := decide_eq_true c71; have c71b1 : decide (0 < x220002_2.length) = true := decide_eq_true (by omega); clear c71; (obtain ⟨ji72, hji72⟩ : ∃ j_ : Int, (wrap64 ((x220002_2.length : Int) - 1)) = j_ := ⟨_, rfl⟩); (replace H : (if 0 ≤ (ji72) then (if (ji72) < (x220002_2.length : Int) then (tikref13_ReadSeg.j3 kj34 l0 t232 (decide (t228 < ((rd_T127 x220002_2 (ji72)).f0.f2))) (wrap64 (t216)) t218 x220002_2 x220003_2 t226 t227 t228 t229) else (none)) else (none)) = some (r1, r2, r3, r4, r5) := by first | (rw [hji72] at H; exact H) | (simp only [hji72] at H ⊢; exact H)); have hji72w : (IntKind.i64.wrap ((x220002_2.length : Int) - 1)) = ji72 := (i64_w _).trans hji72
            by_cases c73 : 0 ≤ (ji72)
            rotate_left
            ·rw [if_neg c73] at H
             exact absurd H (by simp)
            (rw [if_pos c73] at H); have c73b0 : decide (0 ≤ (ji72)) = true := decide_eq_true c73; clear c73
            by_cases c74 : (ji72) < (x220002_2.length : Int)
            rotate_left
            ·rw [if_neg c74] at H
             exact absurd H (by simp)
            (rw [if_pos c74] at H); have c74b0 : decide ((ji72) < (x220002_2.length : Int)) = true := decide_eq_true c74; clear c74; have H' := Aside0.mk H; clear H
            try go_wp2
            have n0_ := Aside0.mk (Kd.S_drew HO_220002.out); have n1_ := Aside0.mk (Kd.R_drew HO_235003.out); have n2_ := Aside0.mk (blk_drew BK214.out); have n3_ := Aside0.mk (blk_drew BK219.out); have n4_ := Aside0.mk (blk_drew BK234.out); have n5_ := Aside0.mk (below_drew1 HB.out); clear HO_220002; clear HO_235003; clear BK214; clear BK219; clear BK234; clear HB; have HO_220002 := n0_; have HO_235003 := n1_; have BK214 := n2_; have BK219 := n3_; have BK234 := n4_; have HB := n5_; clear n0_ n1_ n2_ n3_ n4_ n5_; obtain ⟨Ao76, co76, eo76⟩ := Kd.S_slice HO_220002.out; (first | subst eo76 | (injection eo76 with f1_ f2_ f3_; have f4_ := f1_.symm; have f5_ := f3_.symm; clear f1_ f2_ f3_; subst f4_; subst f5_)); have p236 : 0 ≤ ((ji72) : Int) := of_decide_eq_true (by first | (with_reducible assumption) | assumption); have q236 : (ji72) < (x220002_2.length : Int) := of_decide_eq_true (by first | (with_reducible assumption) | assumption); obtain ⟨ad236, A236_3, c236_3, e236, hx236_0, hx236_1, hx236_2, hx236_3, hx236_4, hx236_5, hl236_3, hi236_3⟩ := at_T127 (Kd.S_reads' HO_220002.out).2.2 (ji72) p236 q236
            cases e236
            (obtain ⟨ce236, hce236, hMe236, hcc236⟩ := Kd.S_get HO_220002.out z127 (ji72) p236 (by first | exact q236 | exact of_decide_eq_true (by first | (with_reducible assumption) | assumption) | (have e_ := (Kd.S_reads' HO_220002.out).1; omega)); obtain ⟨ve236_3, rfl, ge236_3⟩ := k127_openM hMe236; have hv236_3 := hcc236 3 _ rfl; rw [add_field _ _ 3 (by omega)] at hv236_3); replace hv236_3 := Option.some.inj (hv236_3.symm.trans hx236_3); (rw [hv236_3] at ge236_3; have HL236_3 := Aside0.mk (show Kd.R (Kd.int .u8) 5 _ _ _ _ ((rd_T127 x220002_2 (ji72)).f0.f3) from ge236_3); clear hv236_3 ge236_3; clear hcc236 hce236; have HR236_3 := Aside0.mk hi236_3; have HC236_3 := Aside0.mk hl236_3; clear hi236_3 hl236_3); replace p236 := eq_true p236; replace q236 := eq_true q236; refine start_ (n := 30) (S := fun w' => w'.cell? ⟨gb219, 0, none⟩ = some (.int .i64 (wrap64 (t216))) ∧ w'.cell? ⟨gb219, 1, none⟩ = some (.int .u64 t218) ∧ w'.cell? ⟨gb219, 2, none⟩ = some (.slice (some ad236) x220002_2.length co76) ∧ w'.cell? ⟨gb219, 3, none⟩ = some (.int .i64 x220003_2) ∧ w'.cell? ⟨gb234, 0, none⟩ = some (.int .i64 t226) ∧ w'.cell? ⟨gb234, 1, none⟩ = some (.int .u64 t227) ∧ w'.cell? ⟨gb234, 2, none⟩ = some (.int .u64 t228) ∧ w'.cell? ⟨gb234, 3, none⟩ = some (.slice Ao43 t229.length co43) ∧ w'.cell? (ad236.add (((ji72)).toNat * 6)) = some (.int .i64 ((rd_T127 x220002_2 (ji72)).f0.f0)) ∧ w'.cell? ⟨(ad236.add (((ji72)).toNat * 6)).block, (ad236.add (((ji72)).toNat * 6)).off + 1, none⟩ = some (.int .u64 ((rd_T127 x220002_2 (ji72)).f0.f1)) ∧ w'.cell? ⟨(ad236.add (((ji72)).toNat * 6)).block, (ad236.add (((ji72)).toNat * 6)).off + 2, none⟩ = some (.int .u64 ((rd_T127 x220002_2 (ji72)).f0.f2)) ∧ w'.cell? ⟨(ad236.add (((ji72)).toNat * 6)).block, (ad236.add (((ji72)).toNat * 6)).off + 3, none⟩ = some (.slice A236_3 ((rd_T127 x220002_2 (ji72)).f0.f3).length c236_3) ∧ w'.cell? ⟨(ad236.add (((ji72)).toNat * 6)).block, (ad236.add (((ji72)).toNat * 6)).off + 4, none⟩ = some (.int .i64 ((rd_T127 x220002_2 (ji72)).f1)) ∧ w'.cell? ⟨(ad236.add (((ji72)).toNat * 6)).block, (ad236.add (((ji72)).toNat * 6)).off + 5, none⟩ = some (.int .i64 ((rd_T127 x220002_2 (ji72)).f2))) (ds := []) #[false, false, false, false, false, false, false, false, false, false, false, false, false, false, false, false, false, false, false, false, false, false, false, false, false, false, false, false, false, false] (by kernel_rfl) rfl rfl ⟨(blk_cell BK219.out 0).trans rfl, (blk_cell BK219.out 1).trans rfl, (blk_cell BK219.out 2).trans rfl, (blk_cell BK219.out 3).trans rfl, (blk_cell BK234.out 0).trans rfl, (blk_cell BK234.out 1).trans rfl, (blk_cell BK234.out 2).trans rfl, (blk_cell BK234.out 3).trans rfl, hx236_0, hx236_1, hx236_2, hx236_3, hx236_4, hx236_5⟩ (fun hHeld => ?_); refine with_tabW tikref13_ReadSeg.tab10 tikref13_ReadSeg.bits10 (fun HT_ HW_ => ?_); (generalize wc.drew = w75 at HO_220002 HO_235003 BK214 BK219 BK234 HB HL236_3 HR236_3 hx236_0 hx236_1 hx236_2 hx236_3 hx236_4 hx236_5 hHeld ⊢); refine pure_ (i := 0) (N := some 63) (v := ?_) (a' := ?_) #[true, false, false, false, false, false, false, false, false, false, false, false, false, false, false, false, false, false, false, false, false, false, false, false, false, false, false, false, false, false] rfl rfl (any_of HT_.out (by kernel_rfl)) (fun _ _ _ h => h) (Or.inl ⟨by rfl, ?_⟩) ?_ ?_
            rotate_left
            ·intro w'
             go_simp
             with_reducible rfl
            rotate_left
            ·simp only [Act.put, List.setIfInBounds_toArray, List.set_cons_zero, List.set_cons_succ, i64_w, i32_w]
             rfl
            refine take_ (i := 1) (N := some 64) (v := ?_) (a' := ?_) #[true, true, false, false, false, false, false, false, false, false, false, false, false, false, false, false, false, false, false, false, false, false, false, false, false, false, false, false, false, false] rfl rfl (take_ofW HT_.out HW_.out (by kernel_rfl)) (fun _ _ _ h => h) (Or.inl ⟨by rfl, ?_⟩) hHeld ?_ ?_
            rotate_left
            ·rintro w' ⟨s0, s1, s2, s3, s4, s5, s6, s7, s8, s9, s10, s11, s12, s13⟩
             go_simp
             with_reducible rfl
            rotate_left
            ·simp only [Act.put, List.setIfInBounds_toArray, List.set_cons_zero, List.set_cons_succ, i64_w, i32_w]
             rfl
            refine pure_ (i := 2) (N := some 65) (v := ?_) (a' := ?_) #[true, true, true, false, false, false, false, false, false, false, false, false, false, false, false, false, false, false, false, false, false, false, false, false, false, false, false, false, false, false] rfl rfl (any_of HT_.out (by kernel_rfl)) (fun _ _ _ h => h) (Or.inl ⟨by rfl, ?_⟩) ?_ ?_
            rotate_left
            ·intro w'
             go_simp
             with_reducible rfl
            rotate_left
            ·simp only [Act.put, List.setIfInBounds_toArray, List.set_cons_zero, List.set_cons_succ, i64_w, i32_w]
             rfl
            refine pure_ (i := 3) (N := some 66) (v := ?_) (a' := ?_) #[true, true, true, true, false, false, false, false, false, false, false, false, false, false, false, false, false, false, false, false, false, false, false, false, false, false, false, false, false, false] rfl rfl (any_of HT_.out (by kernel_rfl)) (fun _ _ _ h => h) (Or.inl ⟨by rfl, ?_⟩) ?_ ?_
            rotate_left
            ·intro w'
             go_simp
             with_reducible rfl
            rotate_left
            ·simp only [Act.put, List.setIfInBounds_toArray, List.set_cons_zero, List.set_cons_succ, i64_w, i32_w]
             rfl
            refine pure_ (i := 4) (N := some 67) (v := ?_) (a' := ?_) #[true, true, true, true, true, false, false, false, false, false, false, false, false, false, false, false, false, false, false, false, false, false, false, false, false, false, false, false, false, false] rfl rfl (any_of HT_.out (by kernel_rfl)) (fun _ _ _ h => h) (Or.inl ⟨by rfl, ?_⟩) ?_ ?_
            rotate_left
            ·intro w'
             go_simp
             with_reducible rfl
            rotate_left
            ·simp only [Act.put, List.setIfInBounds_toArray, List.set_cons_zero, List.set_cons_succ, i64_w, i32_w]
             rfl
            refine pure_ (i := 5) (N := some 68) (v := undef) (a' := ?_) #[true, true, true, true, true, true, false, false, false, false, false, false, false, false, false, false, false, false, false, false, false, false, false, false, false, false, false, false, false, false] rfl rfl (any_of HT_.out (by kernel_rfl)) (fun _ _ _ h => h) (Or.inr ⟨by rfl, rfl⟩) ?_ ?_
            rotate_left
            ·simp only [Act.put, List.setIfInBounds_toArray, List.set_cons_zero, List.set_cons_succ, i64_w, i32_w]
             rfl
            refine pure_ (i := 6) (N := some 69) (v := undef) (a' := ?_) #[true, true, true, true, true, true, true, false, false, false, false, false, false, false, false, false, false, false, false, false, false, false, false, false, false, false, false, false, false, false] rfl rfl (any_of HT_.out (by kernel_rfl)) (fun _ _ _ h => h) (Or.inr ⟨by rfl, rfl⟩) ?_ ?_
            rotate_left
            ·simp only [Act.put, List.setIfInBounds_toArray, List.set_cons_zero, List.set_cons_succ, i64_w, i32_w]
             rfl
            refine pure_ (i := 7) (N := some 70) (v := undef) (a' := ?_) #[true, true, true, true, true, true, true, true, false, false, false, false, false, false, false, false, false, false, false, false, false, false, false, false, false, false, false, false, false, false] rfl rfl (any_of HT_.out (by kernel_rfl)) (fun _ _ _ h => h) (Or.inr ⟨by rfl, rfl⟩) ?_ ?_
            rotate_left
            ·simp only [Act.put, List.setIfInBounds_toArray, List.set_cons_zero, List.set_cons_succ, i64_w, i32_w]
             rfl
            refine pure_ (i := 8) (N := some 71) (v := ?_) (a' := ?_) #[true, true, true, true, true, true, true, true, true, false, false, false, false, false, false, false, false, false, false, false, false, false, false, false, false, false, false, false, false, false] rfl rfl (any_of HT_.out (by kernel_rfl)) (fun _ _ _ h => h) (Or.inl ⟨by rfl, ?_⟩) ?_ ?_
            rotate_left
            ·intro w'
             go_simp
             with_reducible rfl
            rotate_left
            ·simp only [Act.put, List.setIfInBounds_toArray, List.set_cons_zero, List.set_cons_succ, i64_w, i32_w]
             rfl
            refine pure_ (i := 9) (N := some 72) (v := ?_) (a' := ?_) #[true, true, true, true, true, true, true, true, true, true, false, false, false, false, false, false, false, false, false, false, false, false, false, false, false, false, false, false, false, false] rfl rfl (any_of HT_.out (by kernel_rfl)) (fun _ _ _ h => h) (Or.inl ⟨by rfl, ?_⟩) ?_ ?_
            rotate_left
            ·intro w'
             go_simp
             with_reducible rfl
            rotate_left
            ·simp only [Act.put, List.setIfInBounds_toArray, List.set_cons_zero, List.set_cons_succ, i64_w, i32_w]
             rfl
            refine pure_ (i := 10) (N := some 73) (v := ?_) (a' := ?_) #[true, true, true, true, true, true, true, true, true, true, true, false, false, false, false, false, false, false, false, false, false, false, false, false, false, false, false, false, false, false] rfl rfl (any_of HT_.out (by kernel_rfl)) (fun _ _ _ h => h) (Or.inl ⟨by rfl, ?_⟩) ?_ ?_
            rotate_left
            ·intro w'
             go_simp
             with_reducible rfl
            rotate_left
            ·simp only [Act.put, List.setIfInBounds_toArray, List.set_cons_zero, List.set_cons_succ, i64_w, i32_w]
             rfl
            refine take_ (i := 11) (N := some 74) (v := ?_) (a' := ?_) #[true, true, true, true, true, true, true, true, true, true, true, true, false, false, false, false, false, false, false, false, false, false, false, false, false, false, false, false, false, false] rfl rfl (take_ofW HT_.out HW_.out (by kernel_rfl)) (fun _ _ _ h => h) (Or.inl ⟨by rfl, ?_⟩) hHeld ?_ ?_
            rotate_left
            ·rintro w' ⟨s0, s1, s2, s3, s4, s5, s6, s7, s8, s9, s10, s11, s12, s13⟩
             go_simp
             with_reducible rfl
            rotate_left
            ·simp only [Act.put, List.setIfInBounds_toArray, List.set_cons_zero, List.set_cons_succ, i64_w, i32_w]
             rfl
            refine pure_ (i := 12) (N := some 75) (v := ?_) (a' := ?_) #[true, true, true, true, true, true, true, true, true, true, true, true, true, false, false, false, false, false, false, false, false, false, false, false, false, false, false, false, false, false] rfl rfl (any_of HT_.out (by kernel_rfl)) (fun _ _ _ h => h) (Or.inl ⟨by rfl, ?_⟩) ?_ ?_
            rotate_left
            ·intro w'
             go_simp
             with_reducible rfl
            rotate_left
            ·simp only [Act.put, List.setIfInBounds_toArray, List.set_cons_zero, List.set_cons_succ, i64_w, i32_w]
             rfl
            refine pure_ (i := 13) (N := some 76) (v := ?_) (a' := ?_) #[true, true, true, true, true, true, true, true, true, true, true, true, true, true, false, false, false, false, false, false, false, false, false, false, false, false, false, false, false, false] rfl rfl (any_of HT_.out (by kernel_rfl)) (fun _ _ _ h => h) (Or.inl ⟨by rfl, ?_⟩) ?_ ?_
            rotate_left
            ·intro w'
             go_simp
             with_reducible rfl
            rotate_left
            ·simp only [Act.put, List.setIfInBounds_toArray, List.set_cons_zero, List.set_cons_succ, i64_w, i32_w]
             rfl
            refine pure_ (i := 14) (N := some 77) (v := ?_) (a' := ?_) #[true, true, true, true, true, true, true, true, true, true, true, true, true, true, true, false, false, false, false, false, false, false, false, false, false, false, false, false, false, false] rfl rfl (any_of HT_.out (by kernel_rfl)) (fun _ _ _ h => h) (Or.inl ⟨by rfl, ?_⟩) ?_ ?_
            rotate_left
            ·intro w'
             go_simp
             with_reducible rfl
            rotate_left
            ·simp only [Act.put, List.setIfInBounds_toArray, List.set_cons_zero, List.set_cons_succ, i64_w, i32_w]
             rfl
            refine pure_ (i := 15) (N := some 78) (v := ?_) (a' := ?_) #[true, true, true, true, true, true, true, true, true, true, true, true, true, true, true, true, false, false, false, false, false, false, false, false, false, false, false, false, false, false] rfl rfl (any_of HT_.out (by kernel_rfl)) (fun _ _ _ h => h) (Or.inl ⟨by rfl, ?_⟩) ?_ ?_
            rotate_left
            ·intro w'
             go_simp
             with_reducible rfl
            rotate_left
            ·simp only [Act.put, List.setIfInBounds_toArray, List.set_cons_zero, List.set_cons_succ, i64_w, i32_w]
             rfl
            refine pure_ (i := 17) (N := some 80) (v := ?_) (a' := ?_) #[true, true, true, true, true, true, true, true, true, true, true, true, true, true, true, true, false, true, false, false, false, false, false, false, false, false, false, false, false, false] rfl rfl (any_of HT_.out (by kernel_rfl)) (fun _ _ _ h => h) (Or.inl ⟨by rfl, ?_⟩) ?_ ?_
            rotate_left
            ·intro w'
             go_simp
             with_reducible rfl
            rotate_left
            ·simp only [Act.put, List.setIfInBounds_toArray, List.set_cons_zero, List.set_cons_succ, i64_w, i32_w]
             rfl
            refine pure_ (i := 19) (N := some 82) (v := ?_) (a' := ?_) #[true, true, true, true, true, true, true, true, true, true, true, true, true, true, true, true, false, true, false, true, false, false, false, false, false, false, false, false, false, false] rfl rfl (any_of HT_.out (by kernel_rfl)) (fun _ _ _ h => h) (Or.inl ⟨by rfl, ?_⟩) ?_ ?_
            rotate_left
            ·intro w'
             go_simp
             with_reducible rfl
            rotate_left
            ·simp only [Act.put, List.setIfInBounds_toArray, List.set_cons_zero, List.set_cons_succ, i64_w, i32_w]
             rfl
            refine take_ (i := 16) (N := some 79) (v := ?_) (a' := ?_) #[true, true, true, true, true, true, true, true, true, true, true, true, true, true, true, true, true, true, false, true, false, false, false, false, false, false, false, false, false, false] rfl rfl (take_ofW HT_.out HW_.out (by kernel_rfl)) (fun _ _ _ h => h) (Or.inl ⟨by rfl, ?_⟩) hHeld ?_ ?_
            rotate_left
            ·rintro w' ⟨s0, s1, s2, s3, s4, s5, s6, s7, s8, s9, s10, s11, s12, s13⟩
             go_simp
             with_reducible rfl
            rotate_left
            ·simp only [Act.put, List.setIfInBounds_toArray, List.set_cons_zero, List.set_cons_succ, i64_w, i32_w]
             rfl
            refine take_ (i := 18) (N := some 81) (v := ?_) (a' := ?_) #[true, true, true, true, true, true, true, true, true, true, true, true, true, true, true, true, true, true, true, true, false, false, false, false, false, false, false, false, false, false] rfl rfl (take_ofW HT_.out HW_.out (by kernel_rfl)) (fun _ _ _ h => h) (Or.inl ⟨by rfl, ?_⟩) hHeld ?_ ?_
            rotate_left
            ·rintro w' ⟨s0, s1, s2, s3, s4, s5, s6, s7, s8, s9, s10, s11, s12, s13⟩
             go_simp
             with_reducible rfl
            rotate_left
            ·simp only [Act.put, List.setIfInBounds_toArray, List.set_cons_zero, List.set_cons_succ, i64_w, i32_w]
             rfl
            refine take_ (i := 20) (N := some 83) (v := ?_) (a' := ?_) #[true, true, true, true, true, true, true, true, true, true, true, true, true, true, true, true, true, true, true, true, true, false, false, false, false, false, false, false, false, false] rfl rfl (take_ofW HT_.out HW_.out (by kernel_rfl)) (fun _ _ _ h => h) (Or.inl ⟨by rfl, ?_⟩) hHeld ?_ ?_
            rotate_left
            ·rintro w' ⟨s0, s1, s2, s3, s4, s5, s6, s7, s8, s9, s10, s11, s12, s13⟩
             go_simp
             with_reducible rfl
            rotate_left
            ·simp only [Act.put, List.setIfInBounds_toArray, List.set_cons_zero, List.set_cons_succ, i64_w, i32_w]
             rfl
            refine pure_ (i := 21) (N := some 84) (v := ?_) (a' := ?_) #[true, true, true, true, true, true, true, true, true, true, true, true, true, true, true, true, true, true, true, true, true, true, false, false, false, false, false, false, false, false] rfl rfl (any_of HT_.out (by kernel_rfl)) (fun _ _ _ h => h) (Or.inl ⟨by rfl, ?_⟩) ?_ ?_
            rotate_left
            ·intro w'
             go_simp
             with_reducible rfl
            rotate_left
            ·simp only [Act.put, List.setIfInBounds_toArray, List.set_cons_zero, List.set_cons_succ, i64_w, i32_w]
             rfl
            refine pure_ (i := 22) (N := some 85) (v := ?_) (a' := ?_) #[true, true, true, true, true, true, true, true, true, true, true, true, true, true, true, true, true, true, true, true, true, true, true, false, false, false, false, false, false, false] rfl rfl (any_of HT_.out (by kernel_rfl)) (fun _ _ _ h => h) (Or.inl ⟨by rfl, ?_⟩) ?_ ?_
            rotate_left
            ·intro w'
             go_simp
             with_reducible rfl
            rotate_left
            ·simp only [Act.put, List.setIfInBounds_toArray, List.set_cons_zero, List.set_cons_succ, i64_w, i32_w]
             rfl
            refine pure_ (i := 23) (N := some 86) (v := ?_) (a' := ?_) #[true, true, true, true, true, true, true, true, true, true, true, true, true, true, true, true, true, true, true, true, true, true, true, true, false, false, false, false, false, false] rfl rfl (any_of HT_.out (by kernel_rfl)) (fun _ _ _ h => h) (Or.inl ⟨by rfl, ?_⟩) ?_ ?_
            rotate_left
            ·intro w'
             go_simp
             with_reducible rfl
            rotate_left
            ·simp only [Act.put, List.setIfInBounds_toArray, List.set_cons_zero, List.set_cons_succ, i64_w, i32_w]
             rfl
            refine pure_ (i := 24) (N := some 87) (v := ?_) (a' := ?_) #[true, true, true, true, true, true, true, true, true, true, true, true, true, true, true, true, true, true, true, true, true, true, true, true, true, false, false, false, false, false] rfl rfl (any_of HT_.out (by kernel_rfl)) (fun _ _ _ h => h) (Or.inl ⟨by rfl, ?_⟩) ?_ ?_
            rotate_left
            ·intro w'
             go_simp
             with_reducible rfl
            rotate_left
            ·simp only [Act.put, List.setIfInBounds_toArray, List.set_cons_zero, List.set_cons_succ, i64_w, i32_w]
             rfl
            refine pure_ (i := 25) (N := some 88) (v := ?_) (a' := ?_) #[true, true, true, true, true, true, true, true, true, true, true, true, true, true, true, true, true, true, true, true, true, true, true, true, true, true, false, false, false, false] rfl rfl (any_of HT_.out (by kernel_rfl)) (fun _ _ _ h => h) (Or.inl ⟨by rfl, ?_⟩) ?_ ?_
            rotate_left
            ·intro w'
             go_simp
             with_reducible rfl
            rotate_left
            ·simp only [Act.put, List.setIfInBounds_toArray, List.set_cons_zero, List.set_cons_succ, i64_w, i32_w]
             rfl
            refine take_ (i := 26) (N := some 89) (v := ?_) (a' := ?_) #[true, true, true, true, true, true, true, true, true, true, true, true, true, true, true, true, true, true, true, true, true, true, true, true, true, true, true, false, false, false] rfl rfl (take_ofW HT_.out HW_.out (by kernel_rfl)) (fun _ _ _ h => h) (Or.inl ⟨by rfl, ?_⟩) hHeld ?_ ?_
            rotate_left
            ·rintro w' ⟨s0, s1, s2, s3, s4, s5, s6, s7, s8, s9, s10, s11, s12, s13⟩
             go_simp
             with_reducible rfl
            rotate_left
            ·simp only [Act.put, List.setIfInBounds_toArray, List.set_cons_zero, List.set_cons_succ, i64_w, i32_w]
             rfl
            refine pure_ (i := 27) (N := some 90) (v := ?_) (a' := ?_) #[true, true, true, true, true, true, true, true, true, true, true, true, true, true, true, true, true, true, true, true, true, true, true, true, true, true, true, true, false, false] rfl rfl (any_of HT_.out (by kernel_rfl)) (fun _ _ _ h => h) (Or.inl ⟨by rfl, ?_⟩) ?_ ?_
            rotate_left
            ·intro w'
             go_simp
             with_reducible rfl
            rotate_left
            ·simp only [Act.put, List.setIfInBounds_toArray, List.set_cons_zero, List.set_cons_succ, i64_w, i32_w]
             rfl
            refine pure_ (i := 28) (N := some 91) (v := ?_) (a' := ?_) #[true, true, true, true, true, true, true, true, true, true, true, true, true, true, true, true, true, true, true, true, true, true, true, true, true, true, true, true, true, false] rfl rfl (any_of HT_.out (by kernel_rfl)) (fun _ _ _ h => h) (Or.inl ⟨by rfl, ?_⟩) ?_ ?_
            rotate_left
            ·intro w'
             go_simp
             with_reducible rfl
            rotate_left
            ·simp only [Act.put, List.setIfInBounds_toArray, List.set_cons_zero, List.set_cons_succ, i64_w, i32_w]
             rfl
            refine pure_ (i := 29) (N := some 92) (v := ?_) (a' := ?_) #[true, true, true, true, true, true, true, true, true, true, true, true, true, true, true, true, true, true, true, true, true, true, true, true, true, true, true, true, true, true] rfl rfl (any_of HT_.out (by kernel_rfl)) (fun _ _ _ h => h) (Or.inl ⟨by rfl, ?_⟩) ?_ ?_
            rotate_left
            ·intro w'
             go_simp
             with_reducible rfl
            rotate_left
            ·simp only [Act.put, List.setIfInBounds_toArray, List.set_cons_zero, List.set_cons_succ, i64_w, i32_w]
             rfl
            refine done_ (done_of HT_.out (by kernel_rfl)) ?_
            try go_wp2
            go_meet
            case rel => exact ⟨_, (decide (t228 < ((rd_T127 x220002_2 (ji72)).f0.f2))), (by first | rfl | (simp; done) | (simp only [← hji72] <;> (first | rfl | simp)) | (simp [*]; done)), H', ⟨by have := HJ11.out; have := HK2.out; have := HJ34.out; first | omega | exact Nat.le_refl _⟩, ⟨by (with_reducible repeat first | apply sA_ | apply sN_ | apply sD_); exact HO_220002.out⟩, ⟨by (with_reducible repeat first | apply rA_ | apply rN_ | apply rD_); exact HO_235003.out⟩, ⟨by (with_reducible repeat first | apply zN | apply zD | apply zA); exact BK214.out⟩, ⟨by (with_reducible repeat first | apply zN | apply zD | apply zA); exact BK219.out⟩, ⟨by (with_reducible repeat first | apply zN | apply zD | apply zA); exact BK234.out⟩, ⟨by repeat (first | (with_reducible first | exact HB.out | apply yA | apply yN | apply yD | refine yS ?_ GE214.out | refine yS ?_ GE219.out | refine yS ?_ GE234.out) | exact HB.out)⟩⟩
           (rw [if_pos c59] at H); have c59b0 : ((x220002_2.length : Int) == 0) = true := beq_iff_eq.mpr c59; have c59b1 : ((x220002_2.length : Int) != 0) = false := bne_eq_false_iff_eq.mpr c59; clear c59; (first | rw [c59b0] | (simp only [i64_w, i32_w]; rw [c59b0]) | skip)
           by_cases c60 : t226 = 1
           rotate_left
           ·rw [if_neg c60] at H
            have c60b0 : (t226 == 1) = false := beq_eq_false_iff_ne.mpr c60; have c60b1 : (t226 != 1) = true := bne_iff_ne.mpr c60; have H' := Aside0.mk H; clear H
            try go_wp2
            have n0_ := Aside0.mk (Kd.S_drew HO_220002.out); have n1_ := Aside0.mk (Kd.R_drew HO_235003.out); have n2_ := Aside0.mk (blk_drew BK214.out); have n3_ := Aside0.mk (blk_drew BK219.out); have n4_ := Aside0.mk (blk_drew BK234.out); have n5_ := Aside0.mk (below_drew1 HB.out); clear HO_220002; clear HO_235003; clear BK214; clear BK219; clear BK234; clear HB; have HO_220002 := n0_; have HO_235003 := n1_; have BK214 := n2_; have BK219 := n3_; have BK234 := n4_; have HB := n5_; clear n0_ n1_ n2_ n3_ n4_ n5_; obtain ⟨Ao70, co70, eo70⟩ := Kd.S_slice HO_220002.out; (first | subst eo70 | (injection eo70 with f1_ f2_ f3_; have f4_ := f1_.symm; have f5_ := f3_.symm; clear f1_ f2_ f3_; subst f4_; subst f5_)); refine start_ (n := 30) (S := fun w' => w'.cell? ⟨gb219, 0, none⟩ = some (.int .i64 (wrap64 (t216))) ∧ w'.cell? ⟨gb219, 1, none⟩ = some (.int .u64 t218) ∧ w'.cell? ⟨gb219, 2, none⟩ = some (.slice Ao70 x220002_2.length co70) ∧ w'.cell? ⟨gb219, 3, none⟩ = some (.int .i64 x220003_2) ∧ w'.cell? ⟨gb234, 0, none⟩ = some (.int .i64 t226) ∧ w'.cell? ⟨gb234, 1, none⟩ = some (.int .u64 t227) ∧ w'.cell? ⟨gb234, 2, none⟩ = some (.int .u64 t228) ∧ w'.cell? ⟨gb234, 3, none⟩ = some (.slice Ao43 t229.length co43)) (ds := []) #[false, false, false, false, false, false, false, false, false, false, false, false, false, false, false, false, false, false, false, false, false, false, false, false, false, false, false, false, false, false] (by kernel_rfl) rfl rfl ⟨(blk_cell BK219.out 0).trans rfl, (blk_cell BK219.out 1).trans rfl, (blk_cell BK219.out 2).trans rfl, (blk_cell BK219.out 3).trans rfl, (blk_cell BK234.out 0).trans rfl, (blk_cell BK234.out 1).trans rfl, (blk_cell BK234.out 2).trans rfl, (blk_cell BK234.out 3).trans rfl⟩ (fun hHeld => ?_); refine with_tabW tikref13_ReadSeg.tab10 tikref13_ReadSeg.bits10 (fun HT_ HW_ => ?_); (generalize wc.drew = w69 at HO_220002 HO_235003 BK214 BK219 BK234 HB hHeld ⊢); refine pure_ (i := 0) (N := some 63) (v := ?_) (a' := ?_) #[true, false, false, false, false, false, false, false, false, false, false, false, false, false, false, false, false, false, false, false, false, false, false, false, false, false, false, false, false, false] rfl rfl (any_of HT_.out (by kernel_rfl)) (fun _ _ _ h => h) (Or.inl ⟨by rfl, ?_⟩) ?_ ?_
            rotate_left
            ·intro w'
             go_simp
             with_reducible rfl
            rotate_left
            ·simp only [Act.put, List.setIfInBounds_toArray, List.set_cons_zero, List.set_cons_succ, i64_w, i32_w]
             rfl
            refine take_ (i := 1) (N := some 64) (v := ?_) (a' := ?_) #[true, true, false, false, false, false, false, false, false, false, false, false, false, false, false, false, false, false, false, false, false, false, false, false, false, false, false, false, false, false] rfl rfl (take_ofW HT_.out HW_.out (by kernel_rfl)) (fun _ _ _ h => h) (Or.inl ⟨by rfl, ?_⟩) hHeld ?_ ?_
            rotate_left
            ·rintro w' ⟨s0, s1, s2, s3, s4, s5, s6, s7⟩
             go_simp
             with_reducible rfl
            rotate_left
            ·simp only [Act.put, List.setIfInBounds_toArray, List.set_cons_zero, List.set_cons_succ, i64_w, i32_w]
             rfl
            refine pure_ (i := 2) (N := some 65) (v := ?_) (a' := ?_) #[true, true, true, false, false, false, false, false, false, false, false, false, false, false, false, false, false, false, false, false, false, false, false, false, false, false, false, false, false, false] rfl rfl (any_of HT_.out (by kernel_rfl)) (fun _ _ _ h => h) (Or.inl ⟨by rfl, ?_⟩) ?_ ?_
            rotate_left
            ·intro w'
             go_simp
             with_reducible rfl
            rotate_left
            ·simp only [Act.put, List.setIfInBounds_toArray, List.set_cons_zero, List.set_cons_succ, i64_w, i32_w]
             rfl
            refine pure_ (i := 3) (N := some 66) (v := ?_) (a' := ?_) #[true, true, true, true, false, false, false, false, false, false, false, false, false, false, false, false, false, false, false, false, false, false, false, false, false, false, false, false, false, false] rfl rfl (any_of HT_.out (by kernel_rfl)) (fun _ _ _ h => h) (Or.inl ⟨by rfl, ?_⟩) ?_ ?_
            rotate_left
            ·intro w'
             go_simp
             with_reducible rfl
            rotate_left
            ·simp only [Act.put, List.setIfInBounds_toArray, List.set_cons_zero, List.set_cons_succ, i64_w, i32_w]
             rfl
            refine pure_ (i := 4) (N := some 67) (v := ?_) (a' := ?_) #[true, true, true, true, true, false, false, false, false, false, false, false, false, false, false, false, false, false, false, false, false, false, false, false, false, false, false, false, false, false] rfl rfl (any_of HT_.out (by kernel_rfl)) (fun _ _ _ h => h) (Or.inl ⟨by rfl, ?_⟩) ?_ ?_
            rotate_left
            ·intro w'
             go_simp
             with_reducible rfl
            rotate_left
            ·simp only [Act.put, List.setIfInBounds_toArray, List.set_cons_zero, List.set_cons_succ, i64_w, i32_w]
             rfl
            refine pure_ (i := 5) (N := some 68) (v := ?_) (a' := ?_) #[true, true, true, true, true, true, false, false, false, false, false, false, false, false, false, false, false, false, false, false, false, false, false, false, false, false, false, false, false, false] rfl rfl (any_of HT_.out (by kernel_rfl)) (fun _ _ _ h => h) (Or.inl ⟨by rfl, ?_⟩) ?_ ?_
            rotate_left
            ·intro w'
             go_simp
             with_reducible rfl
            rotate_left
            ·simp only [Act.put, List.setIfInBounds_toArray, List.set_cons_zero, List.set_cons_succ, i64_w, i32_w]
             rfl
            refine take_ (i := 6) (N := some 69) (v := ?_) (a' := ?_) #[true, true, true, true, true, true, true, false, false, false, false, false, false, false, false, false, false, false, false, false, false, false, false, false, false, false, false, false, false, false] rfl rfl (take_ofW HT_.out HW_.out (by kernel_rfl)) (fun _ _ _ h => h) (Or.inl ⟨by rfl, ?_⟩) hHeld ?_ ?_
            rotate_left
            ·rintro w' ⟨s0, s1, s2, s3, s4, s5, s6, s7⟩
             go_simp
             with_reducible rfl
            rotate_left
            ·simp only [Act.put, List.setIfInBounds_toArray, List.set_cons_zero, List.set_cons_succ, i64_w, i32_w]
             rfl
            refine pure_ (i := 7) (N := some 70) (v := ?_) (a' := ?_) #[true, true, true, true, true, true, true, true, false, false, false, false, false, false, false, false, false, false, false, false, false, false, false, false, false, false, false, false, false, false] rfl rfl (any_of HT_.out (by kernel_rfl)) (fun _ _ _ h => h) (Or.inl ⟨by rfl, ?_⟩) ?_ ?_
            rotate_left
            ·intro w'
             go_simp
             with_reducible rfl
            rotate_left
            ·simp only [Act.put, List.setIfInBounds_toArray, List.set_cons_zero, List.set_cons_succ, i64_w, i32_w]
             rfl
            refine pure_ (i := 8) (N := some 71) (v := ?_) (a' := ?_) #[true, true, true, true, true, true, true, true, true, false, false, false, false, false, false, false, false, false, false, false, false, false, false, false, false, false, false, false, false, false] rfl rfl (any_of HT_.out (by kernel_rfl)) (fun _ _ _ h => h) (Or.inl ⟨by rfl, ?_⟩) ?_ ?_
            rotate_left
            ·intro w'
             go_simp
             with_reducible rfl
            rotate_left
            ·simp only [Act.put, List.setIfInBounds_toArray, List.set_cons_zero, List.set_cons_succ, i64_w, i32_w]
             rfl
            refine pure_ (i := 9) (N := some 72) (v := ?_) (a' := ?_) #[true, true, true, true, true, true, true, true, true, true, false, false, false, false, false, false, false, false, false, false, false, false, false, false, false, false, false, false, false, false] rfl rfl (any_of HT_.out (by kernel_rfl)) (fun _ _ _ h => h) (Or.inl ⟨by rfl, ?_⟩) ?_ ?_
            rotate_left
            ·intro w'
             go_simp
             with_reducible rfl
            rotate_left
            ·simp only [Act.put, List.setIfInBounds_toArray, List.set_cons_zero, List.set_cons_succ, i64_w, i32_w]
             rfl
            refine pure_ (i := 10) (N := some 73) (v := undef) (a' := ?_) #[true, true, true, true, true, true, true, true, true, true, true, false, false, false, false, false, false, false, false, false, false, false, false, false, false, false, false, false, false, false] rfl rfl (any_of HT_.out (by kernel_rfl)) (fun _ _ _ h => h) (Or.inr ⟨by rfl, rfl⟩) ?_ ?_
            rotate_left
            ·simp only [Act.put, List.setIfInBounds_toArray, List.set_cons_zero, List.set_cons_succ, i64_w, i32_w]
             rfl
            refine pure_ (i := 11) (N := some 74) (v := undef) (a' := ?_) #[true, true, true, true, true, true, true, true, true, true, true, true, false, false, false, false, false, false, false, false, false, false, false, false, false, false, false, false, false, false] rfl rfl (any_of HT_.out (by kernel_rfl)) (fun _ _ _ h => h) (Or.inr ⟨by rfl, rfl⟩) ?_ ?_
            rotate_left
            ·simp only [Act.put, List.setIfInBounds_toArray, List.set_cons_zero, List.set_cons_succ, i64_w, i32_w]
             rfl
            refine pure_ (i := 12) (N := some 75) (v := undef) (a' := ?_) #[true, true, true, true, true, true, true, true, true, true, true, true, true, false, false, false, false, false, false, false, false, false, false, false, false, false, false, false, false, false] rfl rfl (any_of HT_.out (by kernel_rfl)) (fun _ _ _ h => h) (Or.inr ⟨by rfl, rfl⟩) ?_ ?_
            rotate_left
            ·simp only [Act.put, List.setIfInBounds_toArray, List.set_cons_zero, List.set_cons_succ, i64_w, i32_w]
             rfl
            refine pure_ (i := 13) (N := some 76) (v := undef) (a' := ?_) #[true, true, true, true, true, true, true, true, true, true, true, true, true, true, false, false, false, false, false, false, false, false, false, false, false, false, false, false, false, false] rfl rfl (any_of HT_.out (by kernel_rfl)) (fun _ _ _ h => h) (Or.inr ⟨by rfl, rfl⟩) ?_ ?_
            rotate_left
            ·simp only [Act.put, List.setIfInBounds_toArray, List.set_cons_zero, List.set_cons_succ, i64_w, i32_w]
             rfl
            refine pure_ (i := 14) (N := some 77) (v := undef) (a' := ?_) #[true, true, true, true, true, true, true, true, true, true, true, true, true, true, true, false, false, false, false, false, false, false, false, false, false, false, false, false, false, false] rfl rfl (any_of HT_.out (by kernel_rfl)) (fun _ _ _ h => h) (Or.inr ⟨by rfl, rfl⟩) ?_ ?_
            rotate_left
            ·simp only [Act.put, List.setIfInBounds_toArray, List.set_cons_zero, List.set_cons_succ, i64_w, i32_w]
             rfl
            refine pure_ (i := 15) (N := some 78) (v := undef) (a' := ?_) #[true, true, true, true, true, true, true, true, true, true, true, true, true, true, true, true, false, false, false, false, false, false, false, false, false, false, false, false, false, false] rfl rfl (any_of HT_.out (by kernel_rfl)) (fun _ _ _ h => h) (Or.inr ⟨by rfl, rfl⟩) ?_ ?_
            rotate_left
            ·simp only [Act.put, List.setIfInBounds_toArray, List.set_cons_zero, List.set_cons_succ, i64_w, i32_w]
             rfl
            refine pure_ (i := 16) (N := some 79) (v := undef) (a' := ?_) #[true, true, true, true, true, true, true, true, true, true, true, true, true, true, true, true, true, false, false, false, false, false, false, false, false, false, false, false, false, false] rfl rfl (any_of HT_.out (by kernel_rfl)) (fun _ _ _ h => h) (Or.inr ⟨by rfl, rfl⟩) ?_ ?_
            rotate_left
            ·simp only [Act.put, List.setIfInBounds_toArray, List.set_cons_zero, List.set_cons_succ, i64_w, i32_w]
             rfl
            refine pure_ (i := 17) (N := some 80) (v := undef) (a' := ?_) #[true, true, true, true, true, true, true, true, true, true, true, true, true, true, true, true, true, true, false, false, false, false, false, false, false, false, false, false, false, false] rfl rfl (any_of HT_.out (by kernel_rfl)) (fun _ _ _ h => h) (Or.inr ⟨by rfl, rfl⟩) ?_ ?_
            rotate_left
            ·simp only [Act.put, List.setIfInBounds_toArray, List.set_cons_zero, List.set_cons_succ, i64_w, i32_w]
             rfl
            refine pure_ (i := 18) (N := some 81) (v := undef) (a' := ?_) #[true, true, true, true, true, true, true, true, true, true, true, true, true, true, true, true, true, true, true, false, false, false, false, false, false, false, false, false, false, false] rfl rfl (any_of HT_.out (by kernel_rfl)) (fun _ _ _ h => h) (Or.inr ⟨by rfl, rfl⟩) ?_ ?_
            rotate_left
            ·simp only [Act.put, List.setIfInBounds_toArray, List.set_cons_zero, List.set_cons_succ, i64_w, i32_w]
             rfl
            refine pure_ (i := 19) (N := some 82) (v := undef) (a' := ?_) #[true, true, true, true, true, true, true, true, true, true, true, true, true, true, true, true, true, true, true, true, false, false, false, false, false, false, false, false, false, false] rfl rfl (any_of HT_.out (by kernel_rfl)) (fun _ _ _ h => h) (Or.inr ⟨by rfl, rfl⟩) ?_ ?_
            rotate_left
            ·simp only [Act.put, List.setIfInBounds_toArray, List.set_cons_zero, List.set_cons_succ, i64_w, i32_w]
             rfl
            refine pure_ (i := 20) (N := some 83) (v := undef) (a' := ?_) #[true, true, true, true, true, true, true, true, true, true, true, true, true, true, true, true, true, true, true, true, true, false, false, false, false, false, false, false, false, false] rfl rfl (any_of HT_.out (by kernel_rfl)) (fun _ _ _ h => h) (Or.inr ⟨by rfl, rfl⟩) ?_ ?_
            rotate_left
            ·simp only [Act.put, List.setIfInBounds_toArray, List.set_cons_zero, List.set_cons_succ, i64_w, i32_w]
             rfl
            refine pure_ (i := 21) (N := some 84) (v := undef) (a' := ?_) #[true, true, true, true, true, true, true, true, true, true, true, true, true, true, true, true, true, true, true, true, true, true, false, false, false, false, false, false, false, false] rfl rfl (any_of HT_.out (by kernel_rfl)) (fun _ _ _ h => h) (Or.inr ⟨by rfl, rfl⟩) ?_ ?_
            rotate_left
            ·simp only [Act.put, List.setIfInBounds_toArray, List.set_cons_zero, List.set_cons_succ, i64_w, i32_w]
             rfl
            refine pure_ (i := 22) (N := some 85) (v := undef) (a' := ?_) #[true, true, true, true, true, true, true, true, true, true, true, true, true, true, true, true, true, true, true, true, true, true, true, false, false, false, false, false, false, false] rfl rfl (any_of HT_.out (by kernel_rfl)) (fun _ _ _ h => h) (Or.inr ⟨by rfl, rfl⟩) ?_ ?_
            rotate_left
            ·simp only [Act.put, List.setIfInBounds_toArray, List.set_cons_zero, List.set_cons_succ, i64_w, i32_w]
             rfl
            refine pure_ (i := 23) (N := some 86) (v := undef) (a' := ?_) #[true, true, true, true, true, true, true, true, true, true, true, true, true, true, true, true, true, true, true, true, true, true, true, true, false, false, false, false, false, false] rfl rfl (any_of HT_.out (by kernel_rfl)) (fun _ _ _ h => h) (Or.inr ⟨by rfl, rfl⟩) ?_ ?_
            rotate_left
            ·simp only [Act.put, List.setIfInBounds_toArray, List.set_cons_zero, List.set_cons_succ, i64_w, i32_w]
             rfl
            refine pure_ (i := 24) (N := some 87) (v := undef) (a' := ?_) #[true, true, true, true, true, true, true, true, true, true, true, true, true, true, true, true, true, true, true, true, true, true, true, true, true, false, false, false, false, false] rfl rfl (any_of HT_.out (by kernel_rfl)) (fun _ _ _ h => h) (Or.inr ⟨by rfl, rfl⟩) ?_ ?_
            rotate_left
            ·simp only [Act.put, List.setIfInBounds_toArray, List.set_cons_zero, List.set_cons_succ, i64_w, i32_w]
             rfl
            refine pure_ (i := 25) (N := some 88) (v := undef) (a' := ?_) #[true, true, true, true, true, true, true, true, true, true, true, true, true, true, true, true, true, true, true, true, true, true, true, true, true, true, false, false, false, false] rfl rfl (any_of HT_.out (by kernel_rfl)) (fun _ _ _ h => h) (Or.inr ⟨by rfl, rfl⟩) ?_ ?_
            rotate_left
            ·simp only [Act.put, List.setIfInBounds_toArray, List.set_cons_zero, List.set_cons_succ, i64_w, i32_w]
             rfl
            refine pure_ (i := 26) (N := some 89) (v := undef) (a' := ?_) #[true, true, true, true, true, true, true, true, true, true, true, true, true, true, true, true, true, true, true, true, true, true, true, true, true, true, true, false, false, false] rfl rfl (any_of HT_.out (by kernel_rfl)) (fun _ _ _ h => h) (Or.inr ⟨by rfl, rfl⟩) ?_ ?_
            rotate_left
            ·simp only [Act.put, List.setIfInBounds_toArray, List.set_cons_zero, List.set_cons_succ, i64_w, i32_w]
             rfl
            refine pure_ (i := 27) (N := some 90) (v := undef) (a' := ?_) #[true, true, true, true, true, true, true, true, true, true, true, true, true, true, true, true, true, true, true, true, true, true, true, true, true, true, true, true, false, false] rfl rfl (any_of HT_.out (by kernel_rfl)) (fun _ _ _ h => h) (Or.inr ⟨by rfl, rfl⟩) ?_ ?_
            rotate_left
            ·simp only [Act.put, List.setIfInBounds_toArray, List.set_cons_zero, List.set_cons_succ, i64_w, i32_w]
             rfl
            refine pure_ (i := 28) (N := some 91) (v := undef) (a' := ?_) #[true, true, true, true, true, true, true, true, true, true, true, true, true, true, true, true, true, true, true, true, true, true, true, true, true, true, true, true, true, false] rfl rfl (any_of HT_.out (by kernel_rfl)) (fun _ _ _ h => h) (Or.inr ⟨by rfl, rfl⟩) ?_ ?_
            rotate_left
            ·simp only [Act.put, List.setIfInBounds_toArray, List.set_cons_zero, List.set_cons_succ, i64_w, i32_w]
             rfl
            refine pure_ (i := 29) (N := some 92) (v := ?_) (a' := ?_) #[true, true, true, true, true, true, true, true, true, true, true, true, true, true, true, true, true, true, true, true, true, true, true, true, true, true, true, true, true, true] rfl rfl (any_of HT_.out (by kernel_rfl)) (fun _ _ _ h => h) (Or.inl ⟨by rfl, ?_⟩) ?_ ?_
            rotate_left
            ·intro w'
             go_simp
             with_reducible rfl
            rotate_left
            ·simp only [Act.put, List.setIfInBounds_toArray, List.set_cons_zero, List.set_cons_succ, i64_w, i32_w]
             rfl
            refine done_ (done_of HT_.out (by kernel_rfl)) ?_
            try go_wp2
            go_meet
            case rel => exact ⟨_, (true), (by first | rfl | (simp; done) | (simp [*]; done)), H', ⟨by have := HJ11.out; have := HK2.out; have := HJ34.out; first | omega | exact Nat.le_refl _⟩, ⟨by (with_reducible repeat first | apply sA_ | apply sN_ | apply sD_); exact HO_220002.out⟩, ⟨by (with_reducible repeat first | apply rA_ | apply rN_ | apply rD_); exact HO_235003.out⟩, ⟨by (with_reducible repeat first | apply zN | apply zD | apply zA); exact BK214.out⟩, ⟨by (with_reducible repeat first | apply zN | apply zD | apply zA); exact BK219.out⟩, ⟨by (with_reducible repeat first | apply zN | apply zD | apply zA); exact BK234.out⟩, ⟨by repeat (first | (with_reducible first | exact HB.out | apply yA | apply yN | apply yD | refine yS ?_ GE214.out | refine yS ?_ GE219.out | refine yS ?_ GE234.out) | exact HB.out)⟩⟩
           (rw [if_pos c60] at H); have c60b0 : (t226 == 1) = true := beq_iff_eq.mpr c60; have c60b1 : (t226 != 1) = false := bne_eq_false_iff_eq.mpr c60; clear c60
           by_cases c61 : (x220002_2.length : Int) > 0
           rotate_left
           ·rw [if_neg c61] at H
            have c61b0 : decide (0 < (x220002_2.length : Int)) = false := decide_eq_false c61; have c61b1 : decide (0 < x220002_2.length) = false := decide_eq_false (by omega); clear c61; have H' := Aside0.mk H; clear H
            try go_wp2
            have n0_ := Aside0.mk (Kd.S_drew HO_220002.out); have n1_ := Aside0.mk (Kd.R_drew HO_235003.out); have n2_ := Aside0.mk (blk_drew BK214.out); have n3_ := Aside0.mk (blk_drew BK219.out); have n4_ := Aside0.mk (blk_drew BK234.out); have n5_ := Aside0.mk (below_drew1 HB.out); clear HO_220002; clear HO_235003; clear BK214; clear BK219; clear BK234; clear HB; have HO_220002 := n0_; have HO_235003 := n1_; have BK214 := n2_; have BK219 := n3_; have BK234 := n4_; have HB := n5_; clear n0_ n1_ n2_ n3_ n4_ n5_; obtain ⟨Ao68, co68, eo68⟩ := Kd.S_slice HO_220002.out; (first | subst eo68 | (injection eo68 with f1_ f2_ f3_; have f4_ := f1_.symm; have f5_ := f3_.symm; clear f1_ f2_ f3_; subst f4_; subst f5_)); refine start_ (n := 30) (S := fun w' => w'.cell? ⟨gb219, 0, none⟩ = some (.int .i64 (wrap64 (t216))) ∧ w'.cell? ⟨gb219, 1, none⟩ = some (.int .u64 t218) ∧ w'.cell? ⟨gb219, 2, none⟩ = some (.slice Ao68 x220002_2.length co68) ∧ w'.cell? ⟨gb219, 3, none⟩ = some (.int .i64 x220003_2) ∧ w'.cell? ⟨gb234, 0, none⟩ = some (.int .i64 t226) ∧ w'.cell? ⟨gb234, 1, none⟩ = some (.int .u64 t227) ∧ w'.cell? ⟨gb234, 2, none⟩ = some (.int .u64 t228) ∧ w'.cell? ⟨gb234, 3, none⟩ = some (.slice Ao43 t229.length co43)) (ds := []) #[false, false, false, false, false, false, false, false, false, false, false, false, false, false, false, false, false, false, false, false, false, false, false, false, false, false, false, false, false, false] (by kernel_rfl) rfl rfl ⟨(blk_cell BK219.out 0).trans rfl, (blk_cell BK219.out 1).trans rfl, (blk_cell BK219.out 2).trans rfl, (blk_cell BK219.out 3).trans rfl, (blk_cell BK234.out 0).trans rfl, (blk_cell BK234.out 1).trans rfl, (blk_cell BK234.out 2).trans rfl, (blk_cell BK234.out 3).trans rfl⟩ (fun hHeld => ?_); refine with_tabW tikref13_ReadSeg.tab10 tikref13_ReadSeg.bits10 (fun HT_ HW_ => ?_); (generalize wc.drew = w67 at HO_220002 HO_235003 BK214 BK219 BK234 HB hHeld ⊢); refine pure_ (i := 0) (N := some 63) (v := ?_) (a' := ?_) #[true, false, false, false, false, false, false, false, false, false, false, false, false, false, false, false, false, false, false, false, false, false, false, false, false, false, false, false, false, false] rfl rfl (any_of HT_.out (by kernel_rfl)) (fun _ _ _ h => h) (Or.inl ⟨by rfl, ?_⟩) ?_ ?_
            rotate_left
            ·intro w'
             go_simp
             with_reducible rfl
            rotate_left
            ·simp only [Act.put, List.setIfInBounds_toArray, List.set_cons_zero, List.set_cons_succ, i64_w, i32_w]
             rfl
            refine take_ (i := 1) (N := some 64) (v := ?_) (a' := ?_) #[true, true, false, false, false, false, false, false, false, false, false, false, false, false, false, false, false, false, false, false, false, false, false, false, false, false, false, false, false, false] rfl rfl (take_ofW HT_.out HW_.out (by kernel_rfl)) (fun _ _ _ h => h) (Or.inl ⟨by rfl, ?_⟩) hHeld ?_ ?_
            rotate_left
            ·rintro w' ⟨s0, s1, s2, s3, s4, s5, s6, s7⟩
             go_simp
             with_reducible rfl
            rotate_left
            ·simp only [Act.put, List.setIfInBounds_toArray, List.set_cons_zero, List.set_cons_succ, i64_w, i32_w]
             rfl
            refine pure_ (i := 2) (N := some 65) (v := ?_) (a' := ?_) #[true, true, true, false, false, false, false, false, false, false, false, false, false, false, false, false, false, false, false, false, false, false, false, false, false, false, false, false, false, false] rfl rfl (any_of HT_.out (by kernel_rfl)) (fun _ _ _ h => h) (Or.inl ⟨by rfl, ?_⟩) ?_ ?_
            rotate_left
            ·intro w'
             go_simp
             with_reducible rfl
            rotate_left
            ·simp only [Act.put, List.setIfInBounds_toArray, List.set_cons_zero, List.set_cons_succ, i64_w, i32_w]
             rfl
            refine pure_ (i := 3) (N := some 66) (v := ?_) (a' := ?_) #[true, true, true, true, false, false, false, false, false, false, false, false, false, false, false, false, false, false, false, false, false, false, false, false, false, false, false, false, false, false] rfl rfl (any_of HT_.out (by kernel_rfl)) (fun _ _ _ h => h) (Or.inl ⟨by rfl, ?_⟩) ?_ ?_
            rotate_left
            ·intro w'
             go_simp
             with_reducible rfl
            rotate_left
            ·simp only [Act.put, List.setIfInBounds_toArray, List.set_cons_zero, List.set_cons_succ, i64_w, i32_w]
             rfl
            refine pure_ (i := 4) (N := some 67) (v := ?_) (a' := ?_) #[true, true, true, true, true, false, false, false, false, false, false, false, false, false, false, false, false, false, false, false, false, false, false, false, false, false, false, false, false, false] rfl rfl (any_of HT_.out (by kernel_rfl)) (fun _ _ _ h => h) (Or.inl ⟨by rfl, ?_⟩) ?_ ?_
            rotate_left
            ·intro w'
             go_simp
             with_reducible rfl
            rotate_left
            ·simp only [Act.put, List.setIfInBounds_toArray, List.set_cons_zero, List.set_cons_succ, i64_w, i32_w]
             rfl
            refine pure_ (i := 5) (N := some 68) (v := ?_) (a' := ?_) #[true, true, true, true, true, true, false, false, false, false, false, false, false, false, false, false, false, false, false, false, false, false, false, false, false, false, false, false, false, false] rfl rfl (any_of HT_.out (by kernel_rfl)) (fun _ _ _ h => h) (Or.inl ⟨by rfl, ?_⟩) ?_ ?_
            rotate_left
            ·intro w'
             go_simp
             with_reducible rfl
            rotate_left
            ·simp only [Act.put, List.setIfInBounds_toArray, List.set_cons_zero, List.set_cons_succ, i64_w, i32_w]
             rfl
            refine take_ (i := 6) (N := some 69) (v := ?_) (a' := ?_) #[true, true, true, true, true, true, true, false, false, false, false, false, false, false, false, false, false, false, false, false, false, false, false, false, false, false, false, false, false, false] rfl rfl (take_ofW HT_.out HW_.out (by kernel_rfl)) (fun _ _ _ h => h) (Or.inl ⟨by rfl, ?_⟩) hHeld ?_ ?_
            rotate_left
            ·rintro w' ⟨s0, s1, s2, s3, s4, s5, s6, s7⟩
             go_simp
             with_reducible rfl
            rotate_left
            ·simp only [Act.put, List.setIfInBounds_toArray, List.set_cons_zero, List.set_cons_succ, i64_w, i32_w]
             rfl
            refine pure_ (i := 7) (N := some 70) (v := ?_) (a' := ?_) #[true, true, true, true, true, true, true, true, false, false, false, false, false, false, false, false, false, false, false, false, false, false, false, false, false, false, false, false, false, false] rfl rfl (any_of HT_.out (by kernel_rfl)) (fun _ _ _ h => h) (Or.inl ⟨by rfl, ?_⟩) ?_ ?_
            rotate_left
            ·intro w'
             go_simp
             with_reducible rfl
            rotate_left
            ·simp only [Act.put, List.setIfInBounds_toArray, List.set_cons_zero, List.set_cons_succ, i64_w, i32_w]
             rfl
            refine pure_ (i := 8) (N := some 71) (v := ?_) (a' := ?_) #[true, true, true, true, true, true, true, true, true, false, false, false, false, false, false, false, false, false, false, false, false, false, false, false, false, false, false, false, false, false] rfl rfl (any_of HT_.out (by kernel_rfl)) (fun _ _ _ h => h) (Or.inl ⟨by rfl, ?_⟩) ?_ ?_
            rotate_left
            ·intro w'
             go_simp
             with_reducible rfl
            rotate_left
            ·simp only [Act.put, List.setIfInBounds_toArray, List.set_cons_zero, List.set_cons_succ, i64_w, i32_w]
             rfl
            refine pure_ (i := 9) (N := some 72) (v := ?_) (a' := ?_) #[true, true, true, true, true, true, true, true, true, true, false, false, false, false, false, false, false, false, false, false, false, false, false, false, false, false, false, false, false, false] rfl rfl (any_of HT_.out (by kernel_rfl)) (fun _ _ _ h => h) (Or.inl ⟨by rfl, ?_⟩) ?_ ?_
            rotate_left
            ·intro w'
             go_simp
             with_reducible rfl
            rotate_left
            ·simp only [Act.put, List.setIfInBounds_toArray, List.set_cons_zero, List.set_cons_succ, i64_w, i32_w]
             rfl
            refine pure_ (i := 10) (N := some 73) (v := ?_) (a' := ?_) #[true, true, true, true, true, true, true, true, true, true, true, false, false, false, false, false, false, false, false, false, false, false, false, false, false, false, false, false, false, false] rfl rfl (any_of HT_.out (by kernel_rfl)) (fun _ _ _ h => h) (Or.inl ⟨by rfl, ?_⟩) ?_ ?_
            rotate_left
            ·intro w'
             go_simp
             with_reducible rfl
            rotate_left
            ·simp only [Act.put, List.setIfInBounds_toArray, List.set_cons_zero, List.set_cons_succ, i64_w, i32_w]
             rfl
            refine take_ (i := 11) (N := some 74) (v := ?_) (a' := ?_) #[true, true, true, true, true, true, true, true, true, true, true, true, false, false, false, false, false, false, false, false, false, false, false, false, false, false, false, false, false, false] rfl rfl (take_ofW HT_.out HW_.out (by kernel_rfl)) (fun _ _ _ h => h) (Or.inl ⟨by rfl, ?_⟩) hHeld ?_ ?_
            rotate_left
            ·rintro w' ⟨s0, s1, s2, s3, s4, s5, s6, s7⟩
             go_simp
             with_reducible rfl
            rotate_left
            ·simp only [Act.put, List.setIfInBounds_toArray, List.set_cons_zero, List.set_cons_succ, i64_w, i32_w]
             rfl
            refine pure_ (i := 12) (N := some 75) (v := ?_) (a' := ?_) #[true, true, true, true, true, true, true, true, true, true, true, true, true, false, false, false, false, false, false, false, false, false, false, false, false, false, false, false, false, false] rfl rfl (any_of HT_.out (by kernel_rfl)) (fun _ _ _ h => h) (Or.inl ⟨by rfl, ?_⟩) ?_ ?_
            rotate_left
            ·intro w'
             go_simp
             with_reducible rfl
            rotate_left
            ·simp only [Act.put, List.setIfInBounds_toArray, List.set_cons_zero, List.set_cons_succ, i64_w, i32_w]
             rfl
            refine pure_ (i := 13) (N := some 76) (v := ?_) (a' := ?_) #[true, true, true, true, true, true, true, true, true, true, true, true, true, true, false, false, false, false, false, false, false, false, false, false, false, false, false, false, false, false] rfl rfl (any_of HT_.out (by kernel_rfl)) (fun _ _ _ h => h) (Or.inl ⟨by rfl, ?_⟩) ?_ ?_
            rotate_left
            ·intro w'
             go_simp
             with_reducible rfl
            rotate_left
            ·simp only [Act.put, List.setIfInBounds_toArray, List.set_cons_zero, List.set_cons_succ, i64_w, i32_w]
             rfl
            refine pure_ (i := 14) (N := some 77) (v := ?_) (a' := ?_) #[true, true, true, true, true, true, true, true, true, true, true, true, true, true, true, false, false, false, false, false, false, false, false, false, false, false, false, false, false, false] rfl rfl (any_of HT_.out (by kernel_rfl)) (fun _ _ _ h => h) (Or.inl ⟨by rfl, ?_⟩) ?_ ?_
            rotate_left
            ·intro w'
             go_simp
             with_reducible rfl
            rotate_left
            ·simp only [Act.put, List.setIfInBounds_toArray, List.set_cons_zero, List.set_cons_succ, i64_w, i32_w]
             rfl
            refine pure_ (i := 15) (N := some 78) (v := undef) (a' := ?_) #[true, true, true, true, true, true, true, true, true, true, true, true, true, true, true, true, false, false, false, false, false, false, false, false, false, false, false, false, false, false] rfl rfl (any_of HT_.out (by kernel_rfl)) (fun _ _ _ h => h) (Or.inr ⟨by rfl, rfl⟩) ?_ ?_
            rotate_left
            ·simp only [Act.put, List.setIfInBounds_toArray, List.set_cons_zero, List.set_cons_succ, i64_w, i32_w]
             rfl
            refine pure_ (i := 16) (N := some 79) (v := undef) (a' := ?_) #[true, true, true, true, true, true, true, true, true, true, true, true, true, true, true, true, true, false, false, false, false, false, false, false, false, false, false, false, false, false] rfl rfl (any_of HT_.out (by kernel_rfl)) (fun _ _ _ h => h) (Or.inr ⟨by rfl, rfl⟩) ?_ ?_
            rotate_left
            ·simp only [Act.put, List.setIfInBounds_toArray, List.set_cons_zero, List.set_cons_succ, i64_w, i32_w]
             rfl
            refine pure_ (i := 17) (N := some 80) (v := undef) (a' := ?_) #[true, true, true, true, true, true, true, true, true, true, true, true, true, true, true, true, true, true, false, false, false, false, false, false, false, false, false, false, false, false] rfl rfl (any_of HT_.out (by kernel_rfl)) (fun _ _ _ h => h) (Or.inr ⟨by rfl, rfl⟩) ?_ ?_
            rotate_left
            ·simp only [Act.put, List.setIfInBounds_toArray, List.set_cons_zero, List.set_cons_succ, i64_w, i32_w]
             rfl
            refine pure_ (i := 18) (N := some 81) (v := undef) (a' := ?_) #[true, true, true, true, true, true, true, true, true, true, true, true, true, true, true, true, true, true, true, false, false, false, false, false, false, false, false, false, false, false] rfl rfl (any_of HT_.out (by kernel_rfl)) (fun _ _ _ h => h) (Or.inr ⟨by rfl, rfl⟩) ?_ ?_
            rotate_left
            ·simp only [Act.put, List.setIfInBounds_toArray, List.set_cons_zero, List.set_cons_succ, i64_w, i32_w]
             rfl
            refine pure_ (i := 19) (N := some 82) (v := undef) (a' := ?_) #[true, true, true, true, true, true, true, true, true, true, true, true, true, true, true, true, true, true, true, true, false, false, false, false, false, false, false, false, false, false] rfl rfl (any_of HT_.out (by kernel_rfl)) (fun _ _ _ h => h) (Or.inr ⟨by rfl, rfl⟩) ?_ ?_
            rotate_left
            ·simp only [Act.put, List.setIfInBounds_toArray, List.set_cons_zero, List.set_cons_succ, i64_w, i32_w]
             rfl
            refine pure_ (i := 20) (N := some 83) (v := undef) (a' := ?_) #[true, true, true, true, true, true, true, true, true, true, true, true, true, true, true, true, true, true, true, true, true, false, false, false, false, false, false, false, false, false] rfl rfl (any_of HT_.out (by kernel_rfl)) (fun _ _ _ h => h) (Or.inr ⟨by rfl, rfl⟩) ?_ ?_
            rotate_left
            ·simp only [Act.put, List.setIfInBounds_toArray, List.set_cons_zero, List.set_cons_succ, i64_w, i32_w]
             rfl
            refine pure_ (i := 21) (N := some 84) (v := undef) (a' := ?_) #[true, true, true, true, true, true, true, true, true, true, true, true, true, true, true, true, true, true, true, true, true, true, false, false, false, false, false, false, false, false] rfl rfl (any_of HT_.out (by kernel_rfl)) (fun _ _ _ h => h) (Or.inr ⟨by rfl, rfl⟩) ?_ ?_
            rotate_left
            ·simp only [Act.put, List.setIfInBounds_toArray, List.set_cons_zero, List.set_cons_succ, i64_w, i32_w]
             rfl
            refine pure_ (i := 22) (N := some 85) (v := undef) (a' := ?_) #[true, true, true, true, true, true, true, true, true, true, true, true, true, true, true, true, true, true, true, true, true, true, true, false, false, false, false, false, false, false] rfl rfl (any_of HT_.out (by kernel_rfl)) (fun _ _ _ h => h) (Or.inr ⟨by rfl, rfl⟩) ?_ ?_
            rotate_left
            ·simp only [Act.put, List.setIfInBounds_toArray, List.set_cons_zero, List.set_cons_succ, i64_w, i32_w]
             rfl
            refine pure_ (i := 23) (N := some 86) (v := undef) (a' := ?_) #[true, true, true, true, true, true, true, true, true, true, true, true, true, true, true, true, true, true, true, true, true, true, true, true, false, false, false, false, false, false] rfl rfl (any_of HT_.out (by kernel_rfl)) (fun _ _ _ h => h) (Or.inr ⟨by rfl, rfl⟩) ?_ ?_
            rotate_left
            ·simp only [Act.put, List.setIfInBounds_toArray, List.set_cons_zero, List.set_cons_succ, i64_w, i32_w]
             rfl
            refine pure_ (i := 24) (N := some 87) (v := undef) (a' := ?_) #[true, true, true, true, true, true, true, true, true, true, true, true, true, true, true, true, true, true, true, true, true, true, true, true, true, false, false, false, false, false] rfl rfl (any_of HT_.out (by kernel_rfl)) (fun _ _ _ h => h) (Or.inr ⟨by rfl, rfl⟩) ?_ ?_
            rotate_left
            ·simp only [Act.put, List.setIfInBounds_toArray, List.set_cons_zero, List.set_cons_succ, i64_w, i32_w]
             rfl
            refine pure_ (i := 25) (N := some 88) (v := undef) (a' := ?_) #[true, true, true, true, true, true, true, true, true, true, true, true, true, true, true, true, true, true, true, true, true, true, true, true, true, true, false, false, false, false] rfl rfl (any_of HT_.out (by kernel_rfl)) (fun _ _ _ h => h) (Or.inr ⟨by rfl, rfl⟩) ?_ ?_
            rotate_left
            ·simp only [Act.put, List.setIfInBounds_toArray, List.set_cons_zero, List.set_cons_succ, i64_w, i32_w]
             rfl
            refine pure_ (i := 26) (N := some 89) (v := undef) (a' := ?_) #[true, true, true, true, true, true, true, true, true, true, true, true, true, true, true, true, true, true, true, true, true, true, true, true, true, true, true, false, false, false] rfl rfl (any_of HT_.out (by kernel_rfl)) (fun _ _ _ h => h) (Or.inr ⟨by rfl, rfl⟩) ?_ ?_
            rotate_left
            ·simp only [Act.put, List.setIfInBounds_toArray, List.set_cons_zero, List.set_cons_succ, i64_w, i32_w]
             rfl
            refine pure_ (i := 27) (N := some 90) (v := undef) (a' := ?_) #[true, true, true, true, true, true, true, true, true, true, true, true, true, true, true, true, true, true, true, true, true, true, true, true, true, true, true, true, false, false] rfl rfl (any_of HT_.out (by kernel_rfl)) (fun _ _ _ h => h) (Or.inr ⟨by rfl, rfl⟩) ?_ ?_
            rotate_left
            ·simp only [Act.put, List.setIfInBounds_toArray, List.set_cons_zero, List.set_cons_succ, i64_w, i32_w]
             rfl
            refine pure_ (i := 28) (N := some 91) (v := ?_) (a' := ?_) #[true, true, true, true, true, true, true, true, true, true, true, true, true, true, true, true, true, true, true, true, true, true, true, true, true, true, true, true, true, false] rfl rfl (any_of HT_.out (by kernel_rfl)) (fun _ _ _ h => h) (Or.inl ⟨by rfl, ?_⟩) ?_ ?_
            rotate_left
            ·intro w'
             go_simp
             with_reducible rfl
            rotate_left
            ·simp only [Act.put, List.setIfInBounds_toArray, List.set_cons_zero, List.set_cons_succ, i64_w, i32_w]
             rfl
            refine pure_ (i := 29) (N := some 92) (v := ?_) (a' := ?_) #[true, true, true, true, true, true, true, true, true, true, true, true, true, true, true, true, true, true, true, true, true, true, true, true, true, true, true, true, true, true] rfl rfl (any_of HT_.out (by kernel_rfl)) (fun _ _ _ h => h) (Or.inl ⟨by rfl, ?_⟩) ?_ ?_
            rotate_left
            ·intro w'
             go_simp
             with_reducible rfl
            rotate_left
            ·simp only [Act.put, List.setIfInBounds_toArray, List.set_cons_zero, List.set_cons_succ, i64_w, i32_w]
             rfl
            refine done_ (done_of HT_.out (by kernel_rfl)) ?_
            try go_wp2
            go_meet
            case rel => exact ⟨_, (false), (by first | rfl | (simp; done) | (simp [*]; done)), H', ⟨by have := HJ11.out; have := HK2.out; have := HJ34.out; first | omega | exact Nat.le_refl _⟩, ⟨by (with_reducible repeat first | apply sA_ | apply sN_ | apply sD_); exact HO_220002.out⟩, ⟨by (with_reducible repeat first | apply rA_ | apply rN_ | apply rD_); exact HO_235003.out⟩, ⟨by (with_reducible repeat first | apply zN | apply zD | apply zA); exact BK214.out⟩, ⟨by (with_reducible repeat first | apply zN | apply zD | apply zA); exact BK219.out⟩, ⟨by (with_reducible repeat first | apply zN | apply zD | apply zA); exact BK234.out⟩, ⟨by repeat (first | (with_reducible first | exact HB.out | apply yA | apply yN | apply yD | refine yS ?_ GE214.out | refine yS ?_ GE219.out | refine yS ?_ GE234.out) | exact HB.out)⟩⟩
           (rw [if_pos c61] at H); have c61b0 : decide (0 < (x220002_2.length : Int)) = true := decide_eq_true c61; have c61b1 : decide (0 < x220002_2.length) = true := decide_eq_true (by omega); clear c61; (obtain ⟨ji62, hji62⟩ : ∃ j_ : Int, (wrap64 ((x220002_2.length : Int) - 1)) = j_ := ⟨_, rfl⟩); (replace H : (if 0 ≤ (ji62) then (if (ji62) < (x220002_2.length : Int) then (tikref13_ReadSeg.j3 kj34 l0 t232 (decide (t228 < ((rd_T127 x220002_2 (ji62)).f0.f2))) (wrap64 (t216)) t218 x220002_2 x220003_2 t226 t227 t228 t229) else (none)) else (none)) = some (r1, r2, r3, r4, r5) := by first | (rw [hji62] at H; exact H) | (simp only [hji62] at H ⊢; exact H)); have hji62w : (IntKind.i64.wrap ((x220002_2.length : Int) - 1)) = ji62 := (i64_w _).trans hji62
           by_cases c63 : 0 ≤ (ji62)
           rotate_left
           ·rw [if_neg c63] at H
            exact absurd H (by simp)
           (rw [if_pos c63] at H); have c63b0 : decide (0 ≤ (ji62)) = true := decide_eq_true c63; clear c63
           by_cases c64 : (ji62) < (x220002_2.length : Int)
           rotate_left
           ·rw [if_neg c64] at H
            exact absurd H (by simp)
           (rw [if_pos c64] at H); have c64b0 : decide ((ji62) < (x220002_2.length : Int)) = true := decide_eq_true c64; clear c64; have H' := Aside0.mk H; clear H
           try go_wp2
           have n0_ := Aside0.mk (Kd.S_drew HO_220002.out); have n1_ := Aside0.mk (Kd.R_drew HO_235003.out); have n2_ := Aside0.mk (blk_drew BK214.out); have n3_ := Aside0.mk (blk_drew BK219.out); have n4_ := Aside0.mk (blk_drew BK234.out); have n5_ := Aside0.mk (below_drew1 HB.out); clear HO_220002; clear HO_235003; clear BK214; clear BK219; clear BK234; clear HB; have HO_220002 := n0_; have HO_235003 := n1_; have BK214 := n2_; have BK219 := n3_; have BK234 := n4_; have HB := n5_; clear n0_ n1_ n2_ n3_ n4_ n5_; obtain ⟨Ao66, co66, eo66⟩ := Kd.S_slice HO_220002.out; (first | subst eo66 | (injection eo66 with f1_ f2_ f3_; have f4_ := f1_.symm; have f5_ := f3_.symm; clear f1_ f2_ f3_; subst f4_; subst f5_)); have p235 : 0 ≤ ((ji62) : Int) := of_decide_eq_true (by first | (with_reducible assumption) | assumption); have q235 : (ji62) < (x220002_2.length : Int) := of_decide_eq_true (by first | (with_reducible assumption) | assumption); obtain ⟨ad235, A235_3, c235_3, e235, hx235_0, hx235_1, hx235_2, hx235_3, hx235_4, hx235_5, hl235_3, hi235_3⟩ := at_T127 (Kd.S_reads' HO_220002.out).2.2 (ji62) p235 q235
           cases e235
           (obtain ⟨ce235, hce235, hMe235, hcc235⟩ := Kd.S_get HO_220002.out z127 (ji62) p235 (by first | exact q235 | exact of_decide_eq_true (by first | (with_reducible assumption) | assumption) | (have e_ := (Kd.S_reads' HO_220002.out).1; omega)); obtain ⟨ve235_3, rfl, ge235_3⟩ := k127_openM hMe235; have hv235_3 := hcc235 3 _ rfl; rw [add_field _ _ 3 (by omega)] at hv235_3); replace hv235_3 := Option.some.inj (hv235_3.symm.trans hx235_3); (rw [hv235_3] at ge235_3; have HL235_3 := Aside0.mk (show Kd.R (Kd.int .u8) 5 _ _ _ _ ((rd_T127 x220002_2 (ji62)).f0.f3) from ge235_3); clear hv235_3 ge235_3; clear hcc235 hce235; have HR235_3 := Aside0.mk hi235_3; have HC235_3 := Aside0.mk hl235_3; clear hi235_3 hl235_3); replace p235 := eq_true p235; replace q235 := eq_true q235; refine start_ (n := 30) (S := fun w' => w'.cell? ⟨gb219, 0, none⟩ = some (.int .i64 (wrap64 (t216))) ∧ w'.cell? ⟨gb219, 1, none⟩ = some (.int .u64 t218) ∧ w'.cell? ⟨gb219, 2, none⟩ = some (.slice (some ad235) x220002_2.length co66) ∧ w'.cell? ⟨gb219, 3, none⟩ = some (.int .i64 x220003_2) ∧ w'.cell? ⟨gb234, 0, none⟩ = some (.int .i64 t226) ∧ w'.cell? ⟨gb234, 1, none⟩ = some (.int .u64 t227) ∧ w'.cell? ⟨gb234, 2, none⟩ = some (.int .u64 t228) ∧ w'.cell? ⟨gb234, 3, none⟩ = some (.slice Ao43 t229.length co43) ∧ w'.cell? (ad235.add (((ji62)).toNat * 6)) = some (.int .i64 ((rd_T127 x220002_2 (ji62)).f0.f0)) ∧ w'.cell? ⟨(ad235.add (((ji62)).toNat * 6)).block, (ad235.add (((ji62)).toNat * 6)).off + 1, none⟩ = some (.int .u64 ((rd_T127 x220002_2 (ji62)).f0.f1)) ∧ w'.cell? ⟨(ad235.add (((ji62)).toNat * 6)).block, (ad235.add (((ji62)).toNat * 6)).off + 2, none⟩ = some (.int .u64 ((rd_T127 x220002_2 (ji62)).f0.f2)) ∧ w'.cell? ⟨(ad235.add (((ji62)).toNat * 6)).block, (ad235.add (((ji62)).toNat * 6)).off + 3, none⟩ = some (.slice A235_3 ((rd_T127 x220002_2 (ji62)).f0.f3).length c235_3) ∧ w'.cell? ⟨(ad235.add (((ji62)).toNat * 6)).block, (ad235.add (((ji62)).toNat * 6)).off + 4, none⟩ = some (.int .i64 ((rd_T127 x220002_2 (ji62)).f1)) ∧ w'.cell? ⟨(ad235.add (((ji62)).toNat * 6)).block, (ad235.add (((ji62)).toNat * 6)).off + 5, none⟩ = some (.int .i64 ((rd_T127 x220002_2 (ji62)).f2))) (ds := []) #[false, false, false, false, false, false, false, false, false, false, false, false, false, false, false, false, false, false, false, false, false, false, false, false, false, false, false, false, false, false] (by kernel_rfl) rfl rfl ⟨(blk_cell BK219.out 0).trans rfl, (blk_cell BK219.out 1).trans rfl, (blk_cell BK219.out 2).trans rfl, (blk_cell BK219.out 3).trans rfl, (blk_cell BK234.out 0).trans rfl, (blk_cell BK234.out 1).trans rfl, (blk_cell BK234.out 2).trans rfl, (blk_cell BK234.out 3).trans rfl, hx235_0, hx235_1, hx235_2, hx235_3, hx235_4, hx235_5⟩ (fun hHeld => ?_); refine with_tabW tikref13_ReadSeg.tab10 tikref13_ReadSeg.bits10 (fun HT_ HW_ => ?_); (generalize wc.drew = w65 at HO_220002 HO_235003 BK214 BK219 BK234 HB HL235_3 HR235_3 hx235_0 hx235_1 hx235_2 hx235_3 hx235_4 hx235_5 hHeld ⊢); refine pure_ (i := 0) (N := some 63) (v := ?_) (a' := ?_) #[true, false, false, false, false, false, false, false, false, false, false, false, false, false, false, false, false, false, false, false, false, false, false, false, false, false, false, false, false, false] rfl rfl (any_of HT_.out (by kernel_rfl)) (fun _ _ _ h => h) (Or.inl ⟨by rfl, ?_⟩) ?_ ?_
           rotate_left
           ·intro w'
            go_simp
            with_reducible rfl
           rotate_left
           ·simp only [Act.put, List.setIfInBounds_toArray, List.set_cons_zero, List.set_cons_succ, i64_w, i32_w]
            rfl
           refine take_ (i := 1) (N := some 64) (v := ?_) (a' := ?_) #[true, true, false, false, false, false, false, false, false, false, false, false, false, false, false, false, false, false, false, false, false, false, false, false, false, false, false, false, false, false] rfl rfl (take_ofW HT_.out HW_.out (by kernel_rfl)) (fun _ _ _ h => h) (Or.inl ⟨by rfl, ?_⟩) hHeld ?_ ?_
           rotate_left
           ·rintro w' ⟨s0, s1, s2, s3, s4, s5, s6, s7, s8, s9, s10, s11, s12, s13⟩
            go_simp
            with_reducible rfl
           rotate_left
           ·simp only [Act.put, List.setIfInBounds_toArray, List.set_cons_zero, List.set_cons_succ, i64_w, i32_w]
            rfl
           refine pure_ (i := 2) (N := some 65) (v := ?_) (a' := ?_) #[true, true, true, false, false, false, false, false, false, false, false, false, false, false, false, false, false, false, false, false, false, false, false, false, false, false, false, false, false, false] rfl rfl (any_of HT_.out (by kernel_rfl)) (fun _ _ _ h => h) (Or.inl ⟨by rfl, ?_⟩) ?_ ?_
           rotate_left
           ·intro w'
            go_simp
            with_reducible rfl
           rotate_left
           ·simp only [Act.put, List.setIfInBounds_toArray, List.set_cons_zero, List.set_cons_succ, i64_w, i32_w]
            rfl
           refine pure_ (i := 3) (N := some 66) (v := ?_) (a' := ?_) #[true, true, true, true, false, false, false, false, false, false, false, false, false, false, false, false, false, false, false, false, false, false, false, false, false, false, false, false, false, false] rfl rfl (any_of HT_.out (by kernel_rfl)) (fun _ _ _ h => h) (Or.inl ⟨by rfl, ?_⟩) ?_ ?_
           rotate_left
           ·intro w'
            go_simp
            with_reducible rfl
           rotate_left
           ·simp only [Act.put, List.setIfInBounds_toArray, List.set_cons_zero, List.set_cons_succ, i64_w, i32_w]
            rfl
           refine pure_ (i := 4) (N := some 67) (v := ?_) (a' := ?_) #[true, true, true, true, true, false, false, false, false, false, false, false, false, false, false, false, false, false, false, false, false, false, false, false, false, false, false, false, false, false] rfl rfl (any_of HT_.out (by kernel_rfl)) (fun _ _ _ h => h) (Or.inl ⟨by rfl, ?_⟩) ?_ ?_
           rotate_left
           ·intro w'
            go_simp
            with_reducible rfl
           rotate_left
           ·simp only [Act.put, List.setIfInBounds_toArray, List.set_cons_zero, List.set_cons_succ, i64_w, i32_w]
            rfl
           refine pure_ (i := 5) (N := some 68) (v := ?_) (a' := ?_) #[true, true, true, true, true, true, false, false, false, false, false, false, false, false, false, false, false, false, false, false, false, false, false, false, false, false, false, false, false, false] rfl rfl (any_of HT_.out (by kernel_rfl)) (fun _ _ _ h => h) (Or.inl ⟨by rfl, ?_⟩) ?_ ?_
           rotate_left
           ·intro w'
            go_simp
            with_reducible rfl
           rotate_left
           ·simp only [Act.put, List.setIfInBounds_toArray, List.set_cons_zero, List.set_cons_succ, i64_w, i32_w]
            rfl
           refine take_ (i := 6) (N := some 69) (v := ?_) (a' := ?_) #[true, true, true, true, true, true, true, false, false, false, false, false, false, false, false, false, false, false, false, false, false, false, false, false, false, false, false, false, false, false] rfl rfl (take_ofW HT_.out HW_.out (by kernel_rfl)) (fun _ _ _ h => h) (Or.inl ⟨by rfl, ?_⟩) hHeld ?_ ?_
           rotate_left
           ·rintro w' ⟨s0, s1, s2, s3, s4, s5, s6, s7, s8, s9, s10, s11, s12, s13⟩
            go_simp
            with_reducible rfl
           rotate_left
           ·simp only [Act.put, List.setIfInBounds_toArray, List.set_cons_zero, List.set_cons_succ, i64_w, i32_w]
            rfl
           refine pure_ (i := 7) (N := some 70) (v := ?_) (a' := ?_) #[true, true, true, true, true, true, true, true, false, false, false, false, false, false, false, false, false, false, false, false, false, false, false, false, false, false, false, false, false, false] rfl rfl (any_of HT_.out (by kernel_rfl)) (fun _ _ _ h => h) (Or.inl ⟨by rfl, ?_⟩) ?_ ?_
           rotate_left
           ·intro w'
            go_simp
            with_reducible rfl
           rotate_left
           ·simp only [Act.put, List.setIfInBounds_toArray, List.set_cons_zero, List.set_cons_succ, i64_w, i32_w]
            rfl
           refine pure_ (i := 8) (N := some 71) (v := ?_) (a' := ?_) #[true, true, true, true, true, true, true, true, true, false, false, false, false, false, false, false, false, false, false, false, false, false, false, false, false, false, false, false, false, false] rfl rfl (any_of HT_.out (by kernel_rfl)) (fun _ _ _ h => h) (Or.inl ⟨by rfl, ?_⟩) ?_ ?_
           rotate_left
           ·intro w'
            go_simp
            with_reducible rfl
           rotate_left
           ·simp only [Act.put, List.setIfInBounds_toArray, List.set_cons_zero, List.set_cons_succ, i64_w, i32_w]
            rfl
           refine pure_ (i := 9) (N := some 72) (v := ?_) (a' := ?_) #[true, true, true, true, true, true, true, true, true, true, false, false, false, false, false, false, false, false, false, false, false, false, false, false, false, false, false, false, false, false] rfl rfl (any_of HT_.out (by kernel_rfl)) (fun _ _ _ h => h) (Or.inl ⟨by rfl, ?_⟩) ?_ ?_
           rotate_left
           ·intro w'
            go_simp
            with_reducible rfl
           rotate_left
           ·simp only [Act.put, List.setIfInBounds_toArray, List.set_cons_zero, List.set_cons_succ, i64_w, i32_w]
            rfl
           refine pure_ (i := 10) (N := some 73) (v := ?_) (a' := ?_) #[true, true, true, true, true, true, true, true, true, true, true, false, false, false, false, false, false, false, false, false, false, false, false, false, false, false, false, false, false, false] rfl rfl (any_of HT_.out (by kernel_rfl)) (fun _ _ _ h => h) (Or.inl ⟨by rfl, ?_⟩) ?_ ?_
           rotate_left
           ·intro w'
            go_simp
            with_reducible rfl
           rotate_left
           ·simp only [Act.put, List.setIfInBounds_toArray, List.set_cons_zero, List.set_cons_succ, i64_w, i32_w]
            rfl
           refine take_ (i := 11) (N := some 74) (v := ?_) (a' := ?_) #[true, true, true, true, true, true, true, true, true, true, true, true, false, false, false, false, false, false, false, false, false, false, false, false, false, false, false, false, false, false] rfl rfl (take_ofW HT_.out HW_.out (by kernel_rfl)) (fun _ _ _ h => h) (Or.inl ⟨by rfl, ?_⟩) hHeld ?_ ?_
           rotate_left
           ·rintro w' ⟨s0, s1, s2, s3, s4, s5, s6, s7, s8, s9, s10, s11, s12, s13⟩
            go_simp
            with_reducible rfl
           rotate_left
           ·simp only [Act.put, List.setIfInBounds_toArray, List.set_cons_zero, List.set_cons_succ, i64_w, i32_w]
            rfl
           refine pure_ (i := 12) (N := some 75) (v := ?_) (a' := ?_) #[true, true, true, true, true, true, true, true, true, true, true, true, true, false, false, false, false, false, false, false, false, false, false, false, false, false, false, false, false, false] rfl rfl (any_of HT_.out (by kernel_rfl)) (fun _ _ _ h => h) (Or.inl ⟨by rfl, ?_⟩) ?_ ?_
           rotate_left
           ·intro w'
            go_simp
            with_reducible rfl
           rotate_left
           ·simp only [Act.put, List.setIfInBounds_toArray, List.set_cons_zero, List.set_cons_succ, i64_w, i32_w]
            rfl
           refine pure_ (i := 13) (N := some 76) (v := ?_) (a' := ?_) #[true, true, true, true, true, true, true, true, true, true, true, true, true, true, false, false, false, false, false, false, false, false, false, false, false, false, false, false, false, false] rfl rfl (any_of HT_.out (by kernel_rfl)) (fun _ _ _ h => h) (Or.inl ⟨by rfl, ?_⟩) ?_ ?_
           rotate_left
           ·intro w'
            go_simp
            with_reducible rfl
           rotate_left
           ·simp only [Act.put, List.setIfInBounds_toArray, List.set_cons_zero, List.set_cons_succ, i64_w, i32_w]
            rfl
           refine pure_ (i := 14) (N := some 77) (v := ?_) (a' := ?_) #[true, true, true, true, true, true, true, true, true, true, true, true, true, true, true, false, false, false, false, false, false, false, false, false, false, false, false, false, false, false] rfl rfl (any_of HT_.out (by kernel_rfl)) (fun _ _ _ h => h) (Or.inl ⟨by rfl, ?_⟩) ?_ ?_
           rotate_left
           ·intro w'
            go_simp
            with_reducible rfl
           rotate_left
           ·simp only [Act.put, List.setIfInBounds_toArray, List.set_cons_zero, List.set_cons_succ, i64_w, i32_w]
            rfl
           refine pure_ (i := 15) (N := some 78) (v := ?_) (a' := ?_) #[true, true, true, true, true, true, true, true, true, true, true, true, true, true, true, true, false, false, false, false, false, false, false, false, false, false, false, false, false, false] rfl rfl (any_of HT_.out (by kernel_rfl)) (fun _ _ _ h => h) (Or.inl ⟨by rfl, ?_⟩) ?_ ?_
           rotate_left
           ·intro w'
            go_simp
            with_reducible rfl
           rotate_left
           ·simp only [Act.put, List.setIfInBounds_toArray, List.set_cons_zero, List.set_cons_succ, i64_w, i32_w]
            rfl
           refine pure_ (i := 17) (N := some 80) (v := ?_) (a' := ?_) #[true, true, true, true, true, true, true, true, true, true, true, true, true, true, true, true, false, true, false, false, false, false, false, false, false, false, false, false, false, false] rfl rfl (any_of HT_.out (by kernel_rfl)) (fun _ _ _ h => h) (Or.inl ⟨by rfl, ?_⟩) ?_ ?_
           rotate_left
           ·intro w'
            go_simp
            with_reducible rfl
           rotate_left
           ·simp only [Act.put, List.setIfInBounds_toArray, List.set_cons_zero, List.set_cons_succ, i64_w, i32_w]
            rfl
           refine pure_ (i := 19) (N := some 82) (v := ?_) (a' := ?_) #[true, true, true, true, true, true, true, true, true, true, true, true, true, true, true, true, false, true, false, true, false, false, false, false, false, false, false, false, false, false] rfl rfl (any_of HT_.out (by kernel_rfl)) (fun _ _ _ h => h) (Or.inl ⟨by rfl, ?_⟩) ?_ ?_
           rotate_left
           ·intro w'
            go_simp
            with_reducible rfl
           rotate_left
           ·simp only [Act.put, List.setIfInBounds_toArray, List.set_cons_zero, List.set_cons_succ, i64_w, i32_w]
            rfl
           refine take_ (i := 16) (N := some 79) (v := ?_) (a' := ?_) #[true, true, true, true, true, true, true, true, true, true, true, true, true, true, true, true, true, true, false, true, false, false, false, false, false, false, false, false, false, false] rfl rfl (take_ofW HT_.out HW_.out (by kernel_rfl)) (fun _ _ _ h => h) (Or.inl ⟨by rfl, ?_⟩) hHeld ?_ ?_
           rotate_left
           ·rintro w' ⟨s0, s1, s2, s3, s4, s5, s6, s7, s8, s9, s10, s11, s12, s13⟩
            go_simp
            with_reducible rfl
           rotate_left
           ·simp only [Act.put, List.setIfInBounds_toArray, List.set_cons_zero, List.set_cons_succ, i64_w, i32_w]
            rfl
           refine take_ (i := 18) (N := some 81) (v := ?_) (a' := ?_) #[true, true, true, true, true, true, true, true, true, true, true, true, true, true, true, true, true, true, true, true, false, false, false, false, false, false, false, false, false, false] rfl rfl (take_ofW HT_.out HW_.out (by kernel_rfl)) (fun _ _ _ h => h) (Or.inl ⟨by rfl, ?_⟩) hHeld ?_ ?_
           rotate_left
           ·rintro w' ⟨s0, s1, s2, s3, s4, s5, s6, s7, s8, s9, s10, s11, s12, s13⟩
            go_simp
            with_reducible rfl
           rotate_left
           ·simp only [Act.put, List.setIfInBounds_toArray, List.set_cons_zero, List.set_cons_succ, i64_w, i32_w]
            rfl
           refine take_ (i := 20) (N := some 83) (v := ?_) (a' := ?_) #[true, true, true, true, true, true, true, true, true, true, true, true, true, true, true, true, true, true, true, true, true, false, false, false, false, false, false, false, false, false] rfl rfl (take_ofW HT_.out HW_.out (by kernel_rfl)) (fun _ _ _ h => h) (Or.inl ⟨by rfl, ?_⟩) hHeld ?_ ?_
           rotate_left
           ·rintro w' ⟨s0, s1, s2, s3, s4, s5, s6, s7, s8, s9, s10, s11, s12, s13⟩
            go_simp
            with_reducible rfl
           rotate_left
           ·simp only [Act.put, List.setIfInBounds_toArray, List.set_cons_zero, List.set_cons_succ, i64_w, i32_w]
            rfl
           refine pure_ (i := 21) (N := some 84) (v := ?_) (a' := ?_) #[true, true, true, true, true, true, true, true, true, true, true, true, true, true, true, true, true, true, true, true, true, true, false, false, false, false, false, false, false, false] rfl rfl (any_of HT_.out (by kernel_rfl)) (fun _ _ _ h => h) (Or.inl ⟨by rfl, ?_⟩) ?_ ?_
           rotate_left
           ·intro w'
            go_simp
            with_reducible rfl
           rotate_left
           ·simp only [Act.put, List.setIfInBounds_toArray, List.set_cons_zero, List.set_cons_succ, i64_w, i32_w]
            rfl
           refine pure_ (i := 22) (N := some 85) (v := ?_) (a' := ?_) #[true, true, true, true, true, true, true, true, true, true, true, true, true, true, true, true, true, true, true, true, true, true, true, false, false, false, false, false, false, false] rfl rfl (any_of HT_.out (by kernel_rfl)) (fun _ _ _ h => h) (Or.inl ⟨by rfl, ?_⟩) ?_ ?_
           rotate_left
           ·intro w'
            go_simp
            with_reducible rfl
           rotate_left
           ·simp only [Act.put, List.setIfInBounds_toArray, List.set_cons_zero, List.set_cons_succ, i64_w, i32_w]
            rfl
           refine pure_ (i := 23) (N := some 86) (v := ?_) (a' := ?_) #[true, true, true, true, true, true, true, true, true, true, true, true, true, true, true, true, true, true, true, true, true, true, true, true, false, false, false, false, false, false] rfl rfl (any_of HT_.out (by kernel_rfl)) (fun _ _ _ h => h) (Or.inl ⟨by rfl, ?_⟩) ?_ ?_
           rotate_left
           ·intro w'
            go_simp
            with_reducible rfl
           rotate_left
           ·simp only [Act.put, List.setIfInBounds_toArray, List.set_cons_zero, List.set_cons_succ, i64_w, i32_w]
            rfl
           refine pure_ (i := 24) (N := some 87) (v := ?_) (a' := ?_) #[true, true, true, true, true, true, true, true, true, true, true, true, true, true, true, true, true, true, true, true, true, true, true, true, true, false, false, false, false, false] rfl rfl (any_of HT_.out (by kernel_rfl)) (fun _ _ _ h => h) (Or.inl ⟨by rfl, ?_⟩) ?_ ?_
           rotate_left
           ·intro w'
            go_simp
            with_reducible rfl
           rotate_left
           ·simp only [Act.put, List.setIfInBounds_toArray, List.set_cons_zero, List.set_cons_succ, i64_w, i32_w]
            rfl
           refine pure_ (i := 25) (N := some 88) (v := ?_) (a' := ?_) #[true, true, true, true, true, true, true, true, true, true, true, true, true, true, true, true, true, true, true, true, true, true, true, true, true, true, false, false, false, false] rfl rfl (any_of HT_.out (by kernel_rfl)) (fun _ _ _ h => h) (Or.inl ⟨by rfl, ?_⟩) ?_ ?_
           rotate_left
           ·intro w'
            go_simp
            with_reducible rfl
           rotate_left
           ·simp only [Act.put, List.setIfInBounds_toArray, List.set_cons_zero, List.set_cons_succ, i64_w, i32_w]
            rfl
           refine take_ (i := 26) (N := some 89) (v := ?_) (a' := ?_) #[true, true, true, true, true, true, true, true, true, true, true, true, true, true, true, true, true, true, true, true, true, true, true, true, true, true, true, false, false, false] rfl rfl (take_ofW HT_.out HW_.out (by kernel_rfl)) (fun _ _ _ h => h) (Or.inl ⟨by rfl, ?_⟩) hHeld ?_ ?_
           rotate_left
           ·rintro w' ⟨s0, s1, s2, s3, s4, s5, s6, s7, s8, s9, s10, s11, s12, s13⟩
            go_simp
            with_reducible rfl
           rotate_left
           ·simp only [Act.put, List.setIfInBounds_toArray, List.set_cons_zero, List.set_cons_succ, i64_w, i32_w]
            rfl
           refine pure_ (i := 27) (N := some 90) (v := ?_) (a' := ?_) #[true, true, true, true, true, true, true, true, true, true, true, true, true, true, true, true, true, true, true, true, true, true, true, true, true, true, true, true, false, false] rfl rfl (any_of HT_.out (by kernel_rfl)) (fun _ _ _ h => h) (Or.inl ⟨by rfl, ?_⟩) ?_ ?_
           rotate_left
           ·intro w'
            go_simp
            with_reducible rfl
           rotate_left
           ·simp only [Act.put, List.setIfInBounds_toArray, List.set_cons_zero, List.set_cons_succ, i64_w, i32_w]
            rfl
           refine pure_ (i := 28) (N := some 91) (v := ?_) (a' := ?_) #[true, true, true, true, true, true, true, true, true, true, true, true, true, true, true, true, true, true, true, true, true, true, true, true, true, true, true, true, true, false] rfl rfl (any_of HT_.out (by kernel_rfl)) (fun _ _ _ h => h) (Or.inl ⟨by rfl, ?_⟩) ?_ ?_
           rotate_left
           ·intro w'
            go_simp
            with_reducible rfl
           rotate_left
           ·simp only [Act.put, List.setIfInBounds_toArray, List.set_cons_zero, List.set_cons_succ, i64_w, i32_w]
            rfl
           refine pure_ (i := 29) (N := some 92) (v := ?_) (a' := ?_) #[true, true, true, true, true, true, true, true, true, true, true, true, true, true, true, true, true, true, true, true, true, true, true, true, true, true, true, true, true, true] rfl rfl (any_of HT_.out (by kernel_rfl)) (fun _ _ _ h => h) (Or.inl ⟨by rfl, ?_⟩) ?_ ?_
           rotate_left
           ·intro w'
            go_simp
            with_reducible rfl
           rotate_left
           ·simp only [Act.put, List.setIfInBounds_toArray, List.set_cons_zero, List.set_cons_succ, i64_w, i32_w]
            rfl
           refine done_ (done_of HT_.out (by kernel_rfl)) ?_
           try go_wp2
           go_meet
           case rel => exact ⟨_, (decide (t228 < ((rd_T127 x220002_2 (ji62)).f0.f2))), (by first | rfl | (simp; done) | (simp only [← hji62] <;> (first | rfl | simp)) | (simp [*]; done)), H', ⟨by have := HJ11.out; have := HK2.out; have := HJ34.out; first | omega | exact Nat.le_refl _⟩, ⟨by (with_reducible repeat first | apply sA_ | apply sN_ | apply sD_); exact HO_220002.out⟩, ⟨by (with_reducible repeat first | apply rA_ | apply rN_ | apply rD_); exact HO_235003.out⟩, ⟨by (with_reducible repeat first | apply zN | apply zD | apply zA); exact BK214.out⟩, ⟨by (with_reducible repeat first | apply zN | apply zD | apply zA); exact BK219.out⟩, ⟨by (with_reducible repeat first | apply zN | apply zD | apply zA); exact BK234.out⟩, ⟨by repeat (first | (with_reducible first | exact HB.out | apply yA | apply yN | apply yD | refine yS ?_ GE214.out | refine yS ?_ GE219.out | refine yS ?_ GE234.out) | exact HB.out)⟩⟩
          case rest =>
           ·
            clear HC58; (try clear c2); (try clear p2); (try clear q2); (try clear hx2); (try clear c5); (try clear p6); (try clear c7); (try clear c23); (try clear p23); (try clear q23); (try clear hx23); (try clear c59); (try clear c59b0); (try clear c59b1); (try clear c59b2); (try clear p64); (try clear c71); (try clear c71b0); (try clear c71b1); (try clear c73); (try clear c73b0); (try clear c74); (try clear c74b0); (try clear hx236_0); (try clear hx236_1); (try clear hx236_2); (try clear hx236_3); (try clear hx236_4); (try clear hx236_5); (try clear p236); (try clear q236); obtain ⟨kq, x92_57, rfl, HA, HJ57, HO_220002, HO_235003, BK214, BK219, BK234, HB⟩ := hcut
            cases kq with
            | zero => exact absurd HA.out (by simp [tikref13_ReadSeg.j3])
            | succ kj57 =>
             have H := HA.out; clear HA; (simp only [tikref13_ReadSeg.j3] at H)
             by_cases c79 : x92_57 = true
             ·subst c79
              (have H1 : (some ((wrap64 (t216)), t218, x220002_2, x220003_2, 0)) = some (r1, r2, r3, r4, r5) := by rw [if_pos rfl] at H; exact H); clear H; have H := H1; clear H1; (simp only [Option.some.injEq, Prod.mk.injEq] at H); obtain ⟨rfl, rfl, rfl, rfl, rfl⟩ := H; have hnb80 := NB219_214.out; have hnc80 := NB214_219.out; have hnb81 := NB219_234.out; have hnc81 := NB234_219.out; have hcz82_0 : wc.cell? ⟨gb219, 0, none⟩ = some (.int .i64 (wrap64 (t216))) := (blk_cell BK219.out 0).trans rfl; have hcz82_1 : wc.cell? ⟨gb219, 1, none⟩ = some (.int .u64 t218) := (blk_cell BK219.out 1).trans rfl; have hcz82_2 : wc.cell? ⟨gb219, 2, none⟩ = some (u220002) := (blk_cell BK219.out 2).trans rfl; have hcz82_3 : wc.cell? ⟨gb219, 3, none⟩ = some (.int .i64 x220003_2) := (blk_cell BK219.out 3).trans rfl; have hfz82_0 := blk_frozen BK219.out 0; have hfz82_1 := blk_frozen BK219.out 1; have hfz82_2 := blk_frozen BK219.out 2; have hfz82_3 := blk_frozen BK219.out 3; have hnb83 := NB214_234.out; have hnc83 := NB234_214.out; have hcz84_0 : wc.cell? ⟨gb214, 0, none⟩ = some (.int .i64 x215000_2) := (blk_cell BK214.out 0).trans rfl; have hcz84_1 : wc.cell? ⟨gb214, 1, none⟩ = some (.int .u64 x215001_2) := (blk_cell BK214.out 1).trans rfl; have hcz84_2 : wc.cell? ⟨gb214, 2, none⟩ = some (.slice none 0 0) := (blk_cell BK214.out 2).trans rfl; have hcz84_3 : wc.cell? ⟨gb214, 3, none⟩ = some (.int .i64 x215003_2) := (blk_cell BK214.out 3).trans rfl; have hfz84_0 := blk_frozen BK214.out 0; have hfz84_1 := blk_frozen BK214.out 1; have hfz84_2 := blk_frozen BK214.out 2; have hfz84_3 := blk_frozen BK214.out 3; obtain ⟨Ao85, co85, eo85⟩ := Kd.S_slice HO_220002.out; subst eo85
              go_wp2
              refine bodyPost_ret (results_ct rfl _ _ gb214 77 #[.int .i64 (wrap64 (t216)), .int .u64 t218, .slice Ao85 x220002_2.length co85, .int .i64 x220003_2] (0, 0) _ rfl (by (with_reducible repeat first | apply zN | apply zD | apply zA); refine blk_put (cs := #[.int .i64 (wrap64 (t216)), .int .u64 t218, .slice Ao85 x220002_2.length co85, .int .i64 x215003_2]) ?_ 3 _ rfl; (with_reducible repeat first | apply zN | apply zD | apply zA); refine blk_put (cs := #[.int .i64 (wrap64 (t216)), .int .u64 t218, .slice none 0 0, .int .i64 x215003_2]) ?_ 2 _ rfl; (with_reducible repeat first | apply zN | apply zD | apply zA); refine blk_put (cs := #[.int .i64 (wrap64 (t216)), .int .u64 x215001_2, .slice none 0 0, .int .i64 x215003_2]) ?_ 1 _ rfl; (with_reducible repeat first | apply zN | apply zD | apply zA); refine blk_put (cs := #[.int .i64 x215000_2, .int .u64 x215001_2, .slice none 0 0, .int .i64 x215003_2]) ?_ 0 _ rfl; (with_reducible repeat first | apply zN | apply zD | apply zA); exact BK214.out) Tryd.underlying77 rfl (by kernel_rfl)) rfl ?_; exact ⟨_, by first | rfl | (simp [errW_none, errW_some] <;> rfl) | (simp [*, errW_none, errW_some] <;> rfl), by (with_reducible repeat first | apply sA_ | apply sN_ | apply sD_); exact Kd.S_mono (Kd.S_far (p := ⟨gb214, 3, none⟩) (Kd.S_far (p := ⟨gb214, 2, none⟩) (Kd.S_far (p := ⟨gb214, 1, none⟩) (Kd.S_far (p := ⟨gb214, 0, none⟩) (Kd.S_types HO_220002.out BK214.out (by decide)) (fun _ hk => hk.2) (.int .i64 (wrap64 (t216)))) (fun _ hk => hk.2) (.int .u64 t218)) (fun _ hk => hk.2) (.slice Ao85 x220002_2.length co85)) (fun _ hk => hk.2) (.int .i64 x220003_2)) (fun _ hk => trivial), by repeat (first | (with_reducible first | exact HB.out | apply yA | apply yN | apply yD | refine yS ?_ GE214.out | refine yS ?_ GE219.out | refine yS ?_ GE234.out) | exact HB.out)⟩
             replace c79 := Bool.eq_false_iff.mpr c79; subst c79; (have H1 : (if x220002_2.length < 2199023255552 then (tikref13_ReadSeg.l0 kj57 l0 (wrap64 (t216)) t218 (x220002_2 ++ [(⟨(⟨t226, t227, t228, t229⟩ : S123), x220003_2, t232⟩ : S127)]) t232) else (none)) = some (r1, r2, r3, r4, r5) := by rw [if_neg (show ¬ (false = true) by decide)] at H; exact H); clear H; have H := H1; clear H1
             by_cases c86 : x220002_2.length < 2199023255552
             rotate_left
             ·rw [if_neg c86] at H
              exact absurd H (by simp)
             (rw [if_pos c86] at H); have LMc86 := Aside0.mk c86; clear c86; (obtain ⟨y237, hy237⟩ : ∃ y_ : List (S127), y_ = (x220002_2 ++ [(⟨(⟨t226, t227, t228, t229⟩ : S123), x220003_2, t232⟩ : S127)]) := ⟨_, rfl⟩); (replace H : (tikref13_ReadSeg.l0 kj57 l0 (wrap64 (t216)) t218 y237 t232) = some (r1, r2, r3, r4, r5) := by first | (rw [hy237]; with_reducible exact H) | (have H2_ := (Option.bind_some _ _).symm.trans H; rw [hy237]; with_reducible exact H2_) | (have H2_ := (Option.bind_some _ _).symm.trans H; with_reducible exact H2_) | with_reducible exact H | (rw [hy237]; exact H) | exact H); have Ny237 := Aside0.mk hy237; clear hy237; have H' := Aside0.mk H; clear H; have hnb87 := NB219_214.out; have hnc87 := NB214_219.out; have hnb88 := NB219_234.out; have hnc88 := NB234_219.out; have hcz89_0 : wc.cell? ⟨gb219, 0, none⟩ = some (.int .i64 (wrap64 (t216))) := (blk_cell BK219.out 0).trans rfl; have hcz89_1 : wc.cell? ⟨gb219, 1, none⟩ = some (.int .u64 t218) := (blk_cell BK219.out 1).trans rfl; have hcz89_2 : wc.cell? ⟨gb219, 2, none⟩ = some (u220002) := (blk_cell BK219.out 2).trans rfl; have hcz89_3 : wc.cell? ⟨gb219, 3, none⟩ = some (.int .i64 x220003_2) := (blk_cell BK219.out 3).trans rfl; have hfz89_0 := blk_frozen BK219.out 0; have hfz89_1 := blk_frozen BK219.out 1; have hfz89_2 := blk_frozen BK219.out 2; have hfz89_3 := blk_frozen BK219.out 3; have hnb90 := NB234_214.out; have hnc90 := NB214_234.out; have hcz91_0 : wc.cell? ⟨gb234, 0, none⟩ = some (.int .i64 t226) := (blk_cell BK234.out 0).trans rfl; have hcz91_1 : wc.cell? ⟨gb234, 1, none⟩ = some (.int .u64 t227) := (blk_cell BK234.out 1).trans rfl; have hcz91_2 : wc.cell? ⟨gb234, 2, none⟩ = some (.int .u64 t228) := (blk_cell BK234.out 2).trans rfl; have hcz91_3 : wc.cell? ⟨gb234, 3, none⟩ = some (.slice Ao43 t229.length co43) := (blk_cell BK234.out 3).trans rfl; have hfz91_0 := blk_frozen BK234.out 0; have hfz91_1 := blk_frozen BK234.out 1; have hfz91_2 := blk_frozen BK234.out 2; have hfz91_3 := blk_frozen BK234.out 3
             go_wp2_with (first | ((with_reducible refine gate_builtin (b := .append) (xs := #[.tmp 95, .tmp 101]) rfl ?_); (try (refine gate_guard (by rfl) ?_; dsimp only)); at_builtin; refine Kd.S_append k127 (w0 := w) w.heap.size rfl (.tmp 95) (.tmp 101) 75 127 (.agg #[(.int .i64 0), (.int .u64 0), (.int .u64 0), (.slice none 0 0), (.int .i64 0), (.int .i64 0)]) 64 rfl Tryd.underlying75 info127 rfl (by decide) (by omega) u220002 x220002_2 (⟨(⟨t226, t227, t228, t229⟩ : S123), x220003_2, t232⟩ : S127) [.int .i64 t226, .int .u64 t227, .int .u64 t228, .slice Ao43 t229.length co43, .int .i64 x220003_2, .int .i64 t232] (fun _ => True) (fun k_ => some k_ = (.slice Ao43 t229.length co43 : Value).ownBlock) rfl rfl ?aP (fun k_ hk_ => ((Kd.R_mono (ok' := fun k_ => ((fun _ => True)) k_ ∧ some k_ ≠ (u220002 : Value).ownBlock) (Kd.R_apart' (HO_235003.out) (Kd.S_typed HO_220002.out) (by decide)) (fun k_ hk => ⟨trivial, hk.2⟩))).1 k_ hk_.symm) ?aF ?aO ?aB ?aS ?aL ?_; (case aP => exact k127_mkM _ _ _ (⟨(⟨t226, t227, t228, t229⟩ : S123), x220003_2, t232⟩ : S127) (Kd.R_mono (Kd.R_tight rfl (Kd.R_mono (ok' := fun k_ => ((fun _ => True)) k_ ∧ some k_ ≠ (u220002 : Value).ownBlock) (Kd.R_apart' (HO_235003.out) (Kd.S_typed HO_220002.out) (by decide)) (fun k_ hk => ⟨trivial, hk.2⟩))) (fun _ h_ => h_))); (case aB => exact (by repeat (first | (with_reducible first | exact HB.out | apply yA | apply yN | apply yD | refine yS ?_ GE214.out | refine yS ?_ GE219.out | refine yS ?_ GE234.out) | exact HB.out))); (case aF => exact (fun _ _ => trivial)); (case aO => exact (by (with_reducible repeat first | apply sA_ | apply sN_ | apply sD_); exact Kd.S_mono HO_220002.out (fun k_ hk => ⟨trivial, fun e_ => hk e_⟩))); (case aS => exact (below_size (by repeat (first | (with_reducible first | exact HB.out | apply yA | apply yN | apply yD | refine yS ?_ GE214.out | refine yS ?_ GE219.out | refine yS ?_ GE234.out) | exact HB.out)))); (case aL => have := LMc86.out; omega); intro v238 w92 ho hb hg hat; rw [← Ny237.out] at ho; have n0_ := Aside0.mk (blk_grown (g := gb214) (o := .cells #[.int .i64 x215000_2, .int .u64 x215001_2, .slice none 0 0, .int .i64 x215003_2] 77 (0, 0)) (bx_ BK214) hg (Kd.S_ne HO_220002.out BK214.out (by decide))); have n1_ := Aside0.mk (blk_grown (g := gb219) (o := .cells #[.int .i64 (wrap64 (t216)), .int .u64 t218, u220002, .int .i64 x220003_2] 77 (0, 0)) (bx_ BK219) hg (Kd.S_ne HO_220002.out BK219.out (by decide))); have n2_ := Aside0.mk (blk_grown (g := gb234) (o := .cells #[.int .i64 t226, .int .u64 t227, .int .u64 t228, .slice Ao43 t229.length co43] 123 (0, 0)) (bx_ BK234) hg (Kd.S_ne HO_220002.out BK234.out (by decide))); have n3_ := Aside0.mk (hb); have n4_ := Aside0.mk (ho); clear BK214; clear BK219; clear BK234; clear HB; clear HO_220002; clear HO_235003; have BK214 := n0_; have BK219 := n1_; have BK234 := n2_; have HB := n3_; have HO239 := n4_; clear n0_ n1_ n2_ n3_ n4_; clear ho hb hg hat; obtain ⟨Ao93, co93, eo93⟩ := Kd.S_slice HO239.out; subst eo93; have hcz94_0 : w92.cell? ⟨gb219, 0, none⟩ = some (.int .i64 (wrap64 (t216))) := (blk_cell BK219.out 0).trans rfl; have hcz94_1 : w92.cell? ⟨gb219, 1, none⟩ = some (.int .u64 t218) := (blk_cell BK219.out 1).trans rfl; have hcz94_2 : w92.cell? ⟨gb219, 2, none⟩ = some (u220002) := (blk_cell BK219.out 2).trans rfl; have hcz94_3 : w92.cell? ⟨gb219, 3, none⟩ = some (.int .i64 x220003_2) := (blk_cell BK219.out 3).trans rfl; have hfz94_0 := blk_frozen BK219.out 0; have hfz94_1 := blk_frozen BK219.out 1; have hfz94_2 := blk_frozen BK219.out 2; have hfz94_3 := blk_frozen BK219.out 3))
             go_roundg kj57
             case measure => have := HJ11.out; have := HK2.out; have := HJ34.out; have := HJ57.out; omega
             case rel => exact ⟨(x215000_2), (x215001_2), (x215003_2), (y237), (t232), (.slice Ao93 y237.length co93), H', ⟨by have := HJ11.out; have := HK2.out; have := HJ34.out; have := HJ57.out; omega⟩, ⟨by (with_reducible repeat first | apply sA_ | apply sN_ | apply sD_); exact Kd.S_mono (Kd.S_far (p := ⟨gb219, 3, none⟩) (Kd.S_far (p := ⟨gb219, 2, none⟩) (Kd.S_types HO239.out BK219.out (by decide)) (fun _ hk => hk.2) (.slice Ao93 y237.length co93)) (fun _ hk => hk.2) (.int .i64 t232)) (fun _ hk => trivial)⟩, ⟨by (with_reducible repeat first | apply zN | apply zD | apply zA); refine blk_far ?_ NB214_219.out _; (with_reducible repeat first | apply zN | apply zD | apply zA); refine blk_far ?_ NB214_219.out _; (with_reducible repeat first | apply zN | apply zD | apply zA); exact BK214.out⟩, ⟨by (with_reducible repeat first | apply zN | apply zD | apply zA); refine blk_put (cs := #[.int .i64 (wrap64 (t216)), .int .u64 t218, .slice Ao93 y237.length co93, .int .i64 x220003_2]) ?_ 3 _ rfl; (with_reducible repeat first | apply zN | apply zD | apply zA); refine blk_put (cs := #[.int .i64 (wrap64 (t216)), .int .u64 t218, u220002, .int .i64 x220003_2]) ?_ 2 _ rfl; (with_reducible repeat first | apply zN | apply zD | apply zA); exact BK219.out⟩, ⟨by repeat (first | (with_reducible first | exact HB.out | apply yA | apply yN | apply yD | refine yS ?_ GE214.out | refine yS ?_ GE219.out | refine yS ?_ GE234.out) | exact HB.out)⟩⟩
end Go.Proofs.YtlgfmmkabnbllaaDoor.PS
