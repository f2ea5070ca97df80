/- Texts of this claim, put together. -/
import Derived.Test.YtdklanenmihpdaaMRTb
import Derived.Test.YtdklanenmihpdaaMRTc
set_option linter.unusedVariables false
set_option linter.unusedSimpArgs false
namespace Go.Proofs.Ytdklanenmihpdaa.PL
open Go.RowKit Go.Proofs.YtdklanenmihpdaaW.PrintWords Go.Proofs.YtdklanenmihpdaaW.PrintLast Go.Proofs.YtdklanenmihpdaaW.PrintMore
attribute [local go_sem] max2_int min2_int max_two min_two max_three min_three max_four min_four
open Go.Proofs.Ytdklanenmihpdaa.Hand
open Go.Proofs.Ytdklanenmihpdaa.PA
set_option linter.unusedVariables false
set_option linter.unusedSimpArgs false
def tikref13_EncodeRecord.f (k : Nat) (a0_0 : Int) (a0_1 : Int) (a0_2 : Int) (l0_3 : List Int) : Option (List Int × Int) := (tikref13_MayRecord.f a0_0 a0_1 a0_2 l0_3).bind fun t151 => (if t151 = true then ((some (([(a0_0) % 256] : List Int) : List Int)).bind fun y152 => ((tikref13_nums.f k (([a0_1, a0_2, IntKind.u64.wrap ((l0_3.length : Int))] : List Int))).bind fun t158 => (if y152.length + t158.length < 140737488355328 then ((some (y152 ++ t158 : List Int)).bind fun y161 => (if y161.length + l0_3.length < 140737488355328 then ((some (y161 ++ l0_3 : List Int)).bind fun y164 => ((some (([167, 92] : List Int) : List Int)).bind fun y167 => ((tikref2_Crc.f k y164).bind fun t170 => ((tikref2_Four.f t170).bind fun t171 => (if y167.length + t171.length < 140737488355328 then ((some (y167 ++ t171 : List Int)).bind fun y174 => (if y174.length + y164.length < 140737488355328 then (some ((y174 ++ y164), 0)) else (none))) else (none)))))) else (none))) else (none)))) else (some (([] : List Int), 1)))
def tikref13_EncodeRecord.T3 : Bool × List (List Nat × List Nat) := (true, [([], []), ([0], [0]), ([1], [1]), ([2], [2]), ([], []), ([4], [4]), ([], []), ([6], [6]), ([], []), ([8], [8]), ([9], [9]), ([10], [10]), ([5, 7, 11], [5, 7, 11]), ([12], [12]), ([3, 13, 13], [3, 13]), ([14, 14, 0, 1, 2, 3, 4, 5, 6, 7, 8, 9, 10, 11, 12, 13, 14], [14])])
def tikref13_EncodeRecord.B3 : List Nat := [0, 1, 3, 7, 0, 16, 0, 64, 0, 256, 768, 1792, 4080, 8176, 16383, 32767]
theorem tikref13_EncodeRecord.tab3 : rtab .any (opsOf Try.f12 3) = tikref13_EncodeRecord.T3 := by kernel_rfl
theorem tikref13_EncodeRecord.bits3 : waitsOk tikref13_EncodeRecord.T3.2 tikref13_EncodeRecord.B3 = true := by kernel_rfl
set_option maxHeartbeats 8000000 in
set_option maxRecDepth 100000 in
theorem tikref13_EncodeRecord.calls (k : Nat) (a0_0 : Int) (a0_1 : Int) (a0_2 : Int) (A0_3 : Option Addr) (c0_3 : Nat) (l0_3 : List Int) (r1 : List Int) (r2 : Int) (w : World) (hr0_3 : Kd.C (Kd.int .u8) w A0_3 l0_3.length l0_3) (hc0_3 : l0_3.length ≤ c0_3) (h : tikref13_EncodeRecord.f k a0_0 a0_1 a0_2 l0_3 = some (r1, r2)) :
    Calls Try.prog 12 #[.agg #[.int .i64 a0_0, .int .u64 a0_1, .int .u64 a0_2, .slice A0_3 l0_3.length c0_3]] w fun e w' => ∃ v0_ : Value, e = .returned (.tuple #[v0_, .int .i64 r2]) ∧ Kd.R (Kd.int .u8) 5 w' w.heap.size (fun _ => True) v0_ r1 ∧ Below w.heap.size w w' := by
  have hu31 := Try.underlying31
  have HR0_3 := Aside0.mk hr0_3
  have HC0_3 := Aside0.mk hc0_3
  clear hr0_3 hc0_3
  have HB := Aside0.mk (Below.refl w.heap.size w)
  have H : ((tikref13_MayRecord.f a0_0 a0_1 a0_2 l0_3).bind fun t151 => (if t151 = true then ((some (([(a0_0) % 256] : List Int) : List Int)).bind fun y152 => ((tikref13_nums.f k (([a0_1, a0_2, IntKind.u64.wrap ((l0_3.length : Int))] : List Int))).bind fun t158 => (if y152.length + t158.length < 140737488355328 then ((some (y152 ++ t158 : List Int)).bind fun y161 => (if y161.length + l0_3.length < 140737488355328 then ((some (y161 ++ l0_3 : List Int)).bind fun y164 => ((some (([167, 92] : List Int) : List Int)).bind fun y167 => ((tikref2_Crc.f k y164).bind fun t170 => ((tikref2_Four.f t170).bind fun t171 => (if y167.length + t171.length < 140737488355328 then ((some (y167 ++ t171 : List Int)).bind fun y174 => (if y174.length + y164.length < 140737488355328 then (some ((y174 ++ y164), 0)) else (none))) else (none)))))) else (none))) else (none)))) else (some (([] : List Int), 1)))) = some (r1, r2) := h
  clear h
  replace H := Option.bind_eq_some_iff.mp H
  obtain ⟨t151, A20, H⟩ := H
  replace H : (if t151 = true then ((some (([(a0_0) % 256] : List Int) : List Int)).bind fun y152 => ((tikref13_nums.f k (([a0_1, a0_2, IntKind.u64.wrap ((l0_3.length : Int))] : List Int))).bind fun t158 => (if y152.length + t158.length < 140737488355328 then ((some (y152 ++ t158 : List Int)).bind fun y161 => (if y161.length + l0_3.length < 140737488355328 then ((some (y161 ++ l0_3 : List Int)).bind fun y164 => ((some (([167, 92] : List Int) : List Int)).bind fun y167 => ((tikref2_Crc.f k y164).bind fun t170 => ((tikref2_Four.f t170).bind fun t171 => (if y167.length + t171.length < 140737488355328 then ((some (y167 ++ t171 : List Int)).bind fun y174 => (if y174.length + y164.length < 140737488355328 then (some ((y174 ++ y164), 0)) else (none))) else (none)))))) else (none))) else (none)))) else (some (([] : List Int), 1))) = some (r1, r2) := H
  have A2 := Aside0.mk A20
  clear A20
  by_cases c3 : t151 = true
  · subst c3
    have H1 : ((some (([(a0_0) % 256] : List Int) : List Int)).bind fun y152 => ((tikref13_nums.f k (([a0_1, a0_2, IntKind.u64.wrap ((l0_3.length : Int))] : List Int))).bind fun t158 => (if y152.length + t158.length < 140737488355328 then ((some (y152 ++ t158 : List Int)).bind fun y161 => (if y161.length + l0_3.length < 140737488355328 then ((some (y161 ++ l0_3 : List Int)).bind fun y164 => ((some (([167, 92] : List Int) : List Int)).bind fun y167 => ((tikref2_Crc.f k y164).bind fun t170 => ((tikref2_Four.f t170).bind fun t171 => (if y167.length + t171.length < 140737488355328 then ((some (y167 ++ t171 : List Int)).bind fun y174 => (if y174.length + y164.length < 140737488355328 then (some ((y174 ++ y164), 0)) else (none))) else (none)))))) else (none))) else (none)))) = some (r1, r2) := by rw [if_pos rfl] at H; exact H
    clear H
    have H := H1
    clear H1
    obtain ⟨y152, hy152⟩ : ∃ y_ : List Int, y_ = (([(a0_0) % 256] : List Int)) := ⟨_, rfl⟩
    replace H : ((tikref13_nums.f k (([a0_1, a0_2, IntKind.u64.wrap ((l0_3.length : Int))] : List Int))).bind fun t158 => (if y152.length + t158.length < 140737488355328 then ((some (y152 ++ t158 : List Int)).bind fun y161 => (if y161.length + l0_3.length < 140737488355328 then ((some (y161 ++ l0_3 : List Int)).bind fun y164 => ((some (([167, 92] : List Int) : List Int)).bind fun y167 => ((tikref2_Crc.f k y164).bind fun t170 => ((tikref2_Four.f t170).bind fun t171 => (if y167.length + t171.length < 140737488355328 then ((some (y167 ++ t171 : List Int)).bind fun y174 => (if y174.length + y164.length < 140737488355328 then (some ((y174 ++ y164), 0)) else (none))) else (none)))))) else (none))) else (none))) = some (r1, r2) := by first | (rw [hy152]; with_reducible exact H) | (have H2_ := (Option.bind_some _ _).symm.trans H; rw [hy152]; with_reducible exact H2_) | (have H2_ := (Option.bind_some _ _).symm.trans H; with_reducible exact H2_) | with_reducible exact H | (rw [hy152]; exact H) | exact H
    have Ny152 := Aside0.mk hy152
    clear hy152
    obtain ⟨y155, hy155⟩ : ∃ y_ : List Int, y_ = (([a0_1, a0_2, IntKind.u64.wrap ((l0_3.length : Int))] : List Int)) := ⟨_, rfl⟩
    replace H : ((tikref13_nums.f k y155).bind fun t158 => (if y152.length + t158.length < 140737488355328 then ((some (y152 ++ t158 : List Int)).bind fun y161 => (if y161.length + l0_3.length < 140737488355328 then ((some (y161 ++ l0_3 : List Int)).bind fun y164 => ((some (([167, 92] : List Int) : List Int)).bind fun y167 => ((tikref2_Crc.f k y164).bind fun t170 => ((tikref2_Four.f t170).bind fun t171 => (if y167.length + t171.length < 140737488355328 then ((some (y167 ++ t171 : List Int)).bind fun y174 => (if y174.length + y164.length < 140737488355328 then (some ((y174 ++ y164), 0)) else (none))) else (none)))))) else (none))) else (none))) = some (r1, r2) := by first | (rw [hy155]; with_reducible exact H) | (have H2_ := (Option.bind_some _ _).symm.trans H; rw [hy155]; with_reducible exact H2_) | (have H2_ := (Option.bind_some _ _).symm.trans H; with_reducible exact H2_) | with_reducible exact H | (rw [hy155]; exact H) | exact H
    have Ny155 := Aside0.mk hy155
    clear hy155
    replace H := Option.bind_eq_some_iff.mp H
    obtain ⟨t158, A40, H⟩ := H
    replace H : (if y152.length + t158.length < 140737488355328 then ((some (y152 ++ t158 : List Int)).bind fun y161 => (if y161.length + l0_3.length < 140737488355328 then ((some (y161 ++ l0_3 : List Int)).bind fun y164 => ((some (([167, 92] : List Int) : List Int)).bind fun y167 => ((tikref2_Crc.f k y164).bind fun t170 => ((tikref2_Four.f t170).bind fun t171 => (if y167.length + t171.length < 140737488355328 then ((some (y167 ++ t171 : List Int)).bind fun y174 => (if y174.length + y164.length < 140737488355328 then (some ((y174 ++ y164), 0)) else (none))) else (none)))))) else (none))) else (none)) = some (r1, r2) := H
    have A4 := Aside0.mk A40
    clear A40
    by_cases c5 : y152.length + t158.length < 140737488355328
    · rw [if_pos c5] at H
      have LMc5 := Aside0.mk c5
      clear c5
      obtain ⟨y161, hy161⟩ : ∃ y_ : List Int, y_ = (y152 ++ t158) := ⟨_, rfl⟩
      replace H : (if y161.length + l0_3.length < 140737488355328 then ((some (y161 ++ l0_3 : List Int)).bind fun y164 => ((some (([167, 92] : List Int) : List Int)).bind fun y167 => ((tikref2_Crc.f k y164).bind fun t170 => ((tikref2_Four.f t170).bind fun t171 => (if y167.length + t171.length < 140737488355328 then ((some (y167 ++ t171 : List Int)).bind fun y174 => (if y174.length + y164.length < 140737488355328 then (some ((y174 ++ y164), 0)) else (none))) else (none)))))) else (none)) = some (r1, r2) := by first | (rw [hy161]; with_reducible exact H) | (have H2_ := (Option.bind_some _ _).symm.trans H; rw [hy161]; with_reducible exact H2_) | (have H2_ := (Option.bind_some _ _).symm.trans H; with_reducible exact H2_) | with_reducible exact H | (rw [hy161]; exact H) | exact H
      have Ny161 := Aside0.mk hy161
      clear hy161
      by_cases c6 : y161.length + l0_3.length < 140737488355328
      · rw [if_pos c6] at H
        have LMc6 := Aside0.mk c6
        clear c6
        obtain ⟨y164, hy164⟩ : ∃ y_ : List Int, y_ = (y161 ++ l0_3) := ⟨_, rfl⟩
        replace H : ((some (([167, 92] : List Int) : List Int)).bind fun y167 => ((tikref2_Crc.f k y164).bind fun t170 => ((tikref2_Four.f t170).bind fun t171 => (if y167.length + t171.length < 140737488355328 then ((some (y167 ++ t171 : List Int)).bind fun y174 => (if y174.length + y164.length < 140737488355328 then (some ((y174 ++ y164), 0)) else (none))) else (none))))) = some (r1, r2) := by first | (rw [hy164]; with_reducible exact H) | (have H2_ := (Option.bind_some _ _).symm.trans H; rw [hy164]; with_reducible exact H2_) | (have H2_ := (Option.bind_some _ _).symm.trans H; with_reducible exact H2_) | with_reducible exact H | (rw [hy164]; exact H) | exact H
        have Ny164 := Aside0.mk hy164
        clear hy164
        obtain ⟨y167, hy167⟩ : ∃ y_ : List Int, y_ = (([167, 92] : List Int)) := ⟨_, rfl⟩
        replace H : ((tikref2_Crc.f k y164).bind fun t170 => ((tikref2_Four.f t170).bind fun t171 => (if y167.length + t171.length < 140737488355328 then ((some (y167 ++ t171 : List Int)).bind fun y174 => (if y174.length + y164.length < 140737488355328 then (some ((y174 ++ y164), 0)) else (none))) else (none)))) = some (r1, r2) := by first | (rw [hy167]; with_reducible exact H) | (have H2_ := (Option.bind_some _ _).symm.trans H; rw [hy167]; with_reducible exact H2_) | (have H2_ := (Option.bind_some _ _).symm.trans H; with_reducible exact H2_) | with_reducible exact H | (rw [hy167]; exact H) | exact H
        have Ny167 := Aside0.mk hy167
        clear hy167
        replace H := Option.bind_eq_some_iff.mp H
        obtain ⟨t170, A70, H⟩ := H
        replace H : ((tikref2_Four.f t170).bind fun t171 => (if y167.length + t171.length < 140737488355328 then ((some (y167 ++ t171 : List Int)).bind fun y174 => (if y174.length + y164.length < 140737488355328 then (some ((y174 ++ y164), 0)) else (none))) else (none))) = some (r1, r2) := H
        have A7 := Aside0.mk A70
        clear A70
        replace H := Option.bind_eq_some_iff.mp H
        obtain ⟨t171, A80, H⟩ := H
        replace H : (if y167.length + t171.length < 140737488355328 then ((some (y167 ++ t171 : List Int)).bind fun y174 => (if y174.length + y164.length < 140737488355328 then (some ((y174 ++ y164), 0)) else (none))) else (none)) = some (r1, r2) := H
        have A8 := Aside0.mk A80
        clear A80
        by_cases c9 : y167.length + t171.length < 140737488355328
        · rw [if_pos c9] at H
          have LMc9 := Aside0.mk c9
          clear c9
          obtain ⟨y174, hy174⟩ : ∃ y_ : List Int, y_ = (y167 ++ t171) := ⟨_, rfl⟩
          replace H : (if y174.length + y164.length < 140737488355328 then (some ((y174 ++ y164), 0)) else (none)) = some (r1, r2) := by first | (rw [hy174]; with_reducible exact H) | (have H2_ := (Option.bind_some _ _).symm.trans H; rw [hy174]; with_reducible exact H2_) | (have H2_ := (Option.bind_some _ _).symm.trans H; with_reducible exact H2_) | with_reducible exact H | (rw [hy174]; exact H) | exact H
          have Ny174 := Aside0.mk hy174
          clear hy174
          by_cases c10 : y174.length + y164.length < 140737488355328
          · rw [if_pos c10] at H
            have LMc10 := Aside0.mk c10
            clear c10
            obtain ⟨y177, hy177⟩ : ∃ y_ : List Int, y_ = (y174 ++ y164) := ⟨_, rfl⟩
            replace H : (some (y177, 0)) = some (r1, r2) := by first | (rw [hy177]; with_reducible exact H) | (have H2_ := (Option.bind_some _ _).symm.trans H; rw [hy177]; with_reducible exact H2_) | (have H2_ := (Option.bind_some _ _).symm.trans H; with_reducible exact H2_) | with_reducible exact H | (rw [hy177]; exact H) | exact H
            have Ny177 := Aside0.mk hy177
            clear hy177
            simp only [Option.some.injEq, Prod.mk.injEq] at H
            obtain ⟨rfl, rfl⟩ := H
            go_enter Try.func12, Try.ntmps12
            try go_wp2_with (first | ((with_reducible refine gate_dst (N := 1) rfl ?_); refine box_event ?hg (N := 1) ?hd (cs := #[.int .i64 a0_0, .int .u64 a0_1, .int .u64 a0_2, .slice A0_3 l0_3.length c0_3]) (t := 31) ?hr ?_; (case hd => rfl); (case hg => rfl); (case hr => first | (go_simp; done) | (go_simp; rfl)); intro gb150 hg w11 hbox hb; have n0_ := Aside0.mk (below_step (by repeat (first | (with_reducible first | exact HB.out | apply below_alloc | apply pw_below_drewN | apply below_drew1) | exact HB.out)) hb); have n1_ := Aside0.mk (hbox); have n2_ := Aside0.mk ((by rw [hg]; exact (below_size (by repeat (first | (with_reducible first | exact HB.out | apply below_alloc | apply pw_below_drewN | apply below_drew1) | exact HB.out))) : w.heap.size ≤ gb150)); have n3_ := Aside0.mk ((by rw [hg]; exact (below_size (by repeat (first | (with_reducible first | exact HB.out | apply below_alloc | apply pw_below_drewN | apply below_drew1) | exact HB.out))) : w.heap.size ≤ gb150)); clear HB; have HB := n0_; have BK150 := n1_; have GW150 := n2_; have GE150 := n3_; clear n0_ n1_ n2_ n3_; clear hb hbox hg; have hcz12_0 : w11.cell? ⟨gb150, 0, none⟩ = some (.int .i64 a0_0) := (blk_cell BK150.out 0).trans rfl; have hcz12_1 : w11.cell? ⟨gb150, 1, none⟩ = some (.int .u64 a0_1) := (blk_cell BK150.out 1).trans rfl; have hcz12_2 : w11.cell? ⟨gb150, 2, none⟩ = some (.int .u64 a0_2) := (blk_cell BK150.out 2).trans rfl; have hcz12_3 : w11.cell? ⟨gb150, 3, none⟩ = some (.slice A0_3 l0_3.length c0_3) := (blk_cell BK150.out 3).trans rfl; have hfz12_0 := blk_frozen BK150.out 0; have hfz12_1 := blk_frozen BK150.out 1; have hfz12_2 := blk_frozen BK150.out 2; have hfz12_3 := blk_frozen BK150.out 3) | ((with_reducible refine gate_callee (f := 19) rfl ?_); refine goesL_ (some 6) rfl rfl Try.func19 (by kernel_rfl) rfl #[.agg #[.int .i64 a0_0, .int .u64 a0_1, .int .u64 a0_2, .slice A0_3 l0_3.length c0_3]] rfl (by (try simp only [List.map_toArray, List.map_cons, List.map_nil]); first | done | rfl | (simp only [List.length_drop, List.length_take]; rfl)) ?_; (with_reducible refine (tikref13_MayRecord.calls a0_0 a0_1 a0_2 _ _ l0_3 true _ ?side1 ?side2 A2.out).mono ?_); (case side1 => repeat (first | exact (Kd.C_below HR0_3.out HB.out) | (with_reducible refine Kd.C_alloc ?_ _) | (with_reducible refine Kd.C_drewN ?_ _) | (with_reducible refine Kd.C_drew ?_))); (case side2 => exact HC0_3.out); rintro e w13 ⟨rfl, hb⟩; refine ⟨_, rfl, ?_⟩; have n0_ := Aside0.mk (blk_below (g := gb150) (o := .cells #[.int .i64 a0_0, .int .u64 a0_1, .int .u64 a0_2, .slice A0_3 l0_3.length c0_3] 31 (0, 0)) (by (with_reducible repeat (first | refine blk_drewN ?_ _ | refine blk_drew ?_ | refine blk_alloc ?_ _)); exact BK150.out) hb); have n1_ := Aside0.mk (below_step (by repeat (first | (with_reducible first | exact HB.out | apply below_alloc | apply pw_below_drewN | apply below_drew1 | refine below_set ?_ GE150.out) | exact HB.out)) hb); clear BK150; clear HB; have BK150 := n0_; have HB := n1_; clear n0_ n1_; (try clear hb); (try clear hb2); (try clear hk); (try clear hi)))
            have n0_ := Aside0.mk (blk_drew BK150.out)
            have n1_ := Aside0.mk (below_drew1 HB.out)
            clear BK150
            clear HB
            have BK150 := n0_
            have HB := n1_
            clear n0_ n1_
            refine start_ (n := 16) (S := fun w' => w'.cell? ⟨gb150, 0, none⟩ = some (.int .i64 a0_0) ∧ w'.cell? ⟨gb150, 1, none⟩ = some (.int .u64 a0_1) ∧ w'.cell? ⟨gb150, 2, none⟩ = some (.int .u64 a0_2) ∧ w'.cell? ⟨gb150, 3, none⟩ = some (.slice A0_3 l0_3.length c0_3)) (ds := []) #[false, false, false, false, false, false, false, false, false, false, false, false, false, false, false, false] (by kernel_rfl) rfl rfl ⟨(blk_cell BK150.out 0).trans rfl, (blk_cell BK150.out 1).trans rfl, (blk_cell BK150.out 2).trans rfl, (blk_cell BK150.out 3).trans rfl⟩ (fun hHeld => ?_); refine with_tabW tikref13_EncodeRecord.tab3 tikref13_EncodeRecord.bits3 (fun HT_ HW_ => ?_)
            generalize w13.drew = w14 at BK150 HB hHeld ⊢
            refine pure_ (i := 0) (N := some 8) (v := ?_) (a' := ?_) #[true, false, false, false, false, false, false, false, false, false, false, false, false, false, false, false] rfl rfl (any_of HT_.out (by kernel_rfl)) (fun _ _ _ h => h) (Or.inl ⟨by rfl, ?_⟩) ?_ ?_
            rotate_left
            · intro w'
              go_simp
              with_reducible rfl
            rotate_left
            · simp only [Act.put, List.setIfInBounds_toArray, List.set_cons_zero, List.set_cons_succ, i64_w, i32_w]
              rfl
            refine pure_ (i := 4) (N := some 12) (v := ?_) (a' := ?_) #[true, false, false, false, true, false, false, false, false, false, false, false, false, false, false, false] rfl rfl (any_of HT_.out (by kernel_rfl)) (fun _ _ _ h => h) (Or.inl ⟨by rfl, ?_⟩) ?_ ?_
            rotate_left
            · intro w'
              go_simp
              with_reducible rfl
            rotate_left
            · simp only [Act.put, List.setIfInBounds_toArray, List.set_cons_zero, List.set_cons_succ, i64_w, i32_w]
              rfl
            refine pure_ (i := 6) (N := some 14) (v := ?_) (a' := ?_) #[true, false, false, false, true, false, true, false, false, false, false, false, false, false, false, false] rfl rfl (any_of HT_.out (by kernel_rfl)) (fun _ _ _ h => h) (Or.inl ⟨by rfl, ?_⟩) ?_ ?_
            rotate_left
            · intro w'
              go_simp
              with_reducible rfl
            rotate_left
            · simp only [Act.put, List.setIfInBounds_toArray, List.set_cons_zero, List.set_cons_succ, i64_w, i32_w]
              rfl
            refine pure_ (i := 8) (N := some 16) (v := ?_) (a' := ?_) #[true, false, false, false, true, false, true, false, true, false, false, false, false, false, false, false] rfl rfl (any_of HT_.out (by kernel_rfl)) (fun _ _ _ h => h) (Or.inl ⟨by rfl, ?_⟩) ?_ ?_
            rotate_left
            · intro w'
              go_simp
              with_reducible rfl
            rotate_left
            · simp only [Act.put, List.setIfInBounds_toArray, List.set_cons_zero, List.set_cons_succ, i64_w, i32_w]
              rfl
            refine take_ (i := 1) (N := some 9) (v := ?_) (a' := ?_) #[true, true, false, false, true, false, true, false, true, false, false, false, false, false, false, false] rfl rfl (take_ofW HT_.out HW_.out (by kernel_rfl)) (fun _ _ _ h => h) (Or.inl ⟨by rfl, ?_⟩) hHeld ?_ ?_
            rotate_left
            · rintro w' ⟨s0, s1, s2, s3⟩
              go_simp
              with_reducible rfl
            rotate_left
            · simp only [Act.put, List.setIfInBounds_toArray, List.set_cons_zero, List.set_cons_succ, i64_w, i32_w]
              rfl
            refine pure_ (i := 2) (N := some 10) (v := ?_) (a' := ?_) #[true, true, true, false, true, false, true, false, true, false, false, false, false, false, false, false] rfl rfl (any_of HT_.out (by kernel_rfl)) (fun _ _ _ h => h) (Or.inl ⟨by rfl, ?_⟩) ?_ ?_
            rotate_left
            · intro w'
              go_simp
              with_reducible rfl
            rotate_left
            · simp only [Act.put, List.setIfInBounds_toArray, List.set_cons_zero, List.set_cons_succ, i64_w, i32_w]
              rfl
            refine take_ (i := 5) (N := some 13) (v := ?_) (a' := ?_) #[true, true, true, false, true, true, true, false, true, false, false, false, false, false, false, false] rfl rfl (take_ofW HT_.out HW_.out (by kernel_rfl)) (fun _ _ _ h => h) (Or.inl ⟨by rfl, ?_⟩) hHeld ?_ ?_
            rotate_left
            · rintro w' ⟨s0, s1, s2, s3⟩
              go_simp
              with_reducible rfl
            rotate_left
            · simp only [Act.put, List.setIfInBounds_toArray, List.set_cons_zero, List.set_cons_succ, i64_w, i32_w]
              rfl
            refine take_ (i := 7) (N := some 15) (v := ?_) (a' := ?_) #[true, true, true, false, true, true, true, true, true, false, false, false, false, false, false, false] rfl rfl (take_ofW HT_.out HW_.out (by kernel_rfl)) (fun _ _ _ h => h) (Or.inl ⟨by rfl, ?_⟩) hHeld ?_ ?_
            rotate_left
            · rintro w' ⟨s0, s1, s2, s3⟩
              go_simp
              with_reducible rfl
            rotate_left
            · simp only [Act.put, List.setIfInBounds_toArray, List.set_cons_zero, List.set_cons_succ, i64_w, i32_w]
              rfl
            refine take_ (i := 9) (N := some 17) (v := ?_) (a' := ?_) #[true, true, true, false, true, true, true, true, true, true, false, false, false, false, false, false] rfl rfl (take_ofW HT_.out HW_.out (by kernel_rfl)) (fun _ _ _ h => h) (Or.inl ⟨by rfl, ?_⟩) hHeld ?_ ?_
            rotate_left
            · rintro w' ⟨s0, s1, s2, s3⟩
              go_simp
              with_reducible rfl
            rotate_left
            · simp only [Act.put, List.setIfInBounds_toArray, List.set_cons_zero, List.set_cons_succ, i64_w, i32_w]
              rfl
            refine pure_ (i := 10) (N := some 18) (v := ?_) (a' := ?_) #[true, true, true, false, true, true, true, true, true, true, true, false, false, false, false, false] rfl rfl (any_of HT_.out (by kernel_rfl)) (fun _ _ _ h => h) (Or.inl ⟨by rfl, ?_⟩) ?_ ?_
            rotate_left
            · intro w'
              go_simp
              with_reducible rfl
            rotate_left
            · simp only [Act.put, List.setIfInBounds_toArray, List.set_cons_zero, List.set_cons_succ, i64_w, i32_w]
              rfl
            refine pure_ (i := 11) (N := some 19) (v := ?_) (a' := ?_) #[true, true, true, false, true, true, true, true, true, true, true, true, false, false, false, false] rfl rfl (any_of HT_.out (by kernel_rfl)) (fun _ _ _ h => h) (Or.inl ⟨by rfl, ?_⟩) ?_ ?_
            rotate_left
            · intro w'
              go_simp
              with_reducible rfl
            rotate_left
            · simp only [Act.put, List.setIfInBounds_toArray, List.set_cons_zero, List.set_cons_succ, i64_w, i32_w]
              rfl
            refine join_ (σ := Value × Value × Value) 2 #[true, true, true, true, true, true, true, true, true, true, true, true, true, true, false, false] (fun s_ => [(11, s_.1), (20, s_.2.1), (21, s_.2.2)]) (fun s_ w' => (w'.cell? ⟨gb150, 0, none⟩ = some (.int .i64 a0_0) ∧ w'.cell? ⟨gb150, 1, none⟩ = some (.int .u64 a0_1) ∧ w'.cell? ⟨gb150, 2, none⟩ = some (.int .u64 a0_2) ∧ w'.cell? ⟨gb150, 3, none⟩ = some (.slice A0_3 l0_3.length c0_3)) ∧ (Kd.R (Kd.int .u8) 5 w' w.heap.size (fun k_ => some k_ ≠ (s_.2.2 : Value).ownBlock) s_.1 y152) ∧ (Kd.R (Kd.int .u64) 22 w' w.heap.size (fun _ => True) s_.2.1 y155) ∧ (Kd.R (Kd.int .u8) 5 w' w.heap.size (fun k_ => some k_ ≠ (s_.1 : Value).ownBlock) s_.2.2 t158) ∧ (w'.heap[gb150]? = some (.cells #[.int .i64 a0_0, .int .u64 a0_1, .int .u64 a0_2, .slice A0_3 l0_3.length c0_3] 31 (0, 0))) ∧ (Below w.heap.size w w')) ?_ ?_
            rotate_left
            · intro hCont
              refine two_ (i := 3) (j := 12) (Ni := some 11) (Nj := some 20) #[true, true, true, true, true, true, true, true, true, true, true, true, false, false, false, false] #[true, true, true, false, true, true, true, true, true, true, true, true, true, false, false, false] rfl rfl rfl rfl (two_of HT_.out (by kernel_rfl)) (by decide) (by decide) (fun K hK => ?_) (fun K hK => ?_)
              · skip
                refine Kd.R_lit_step (Kd.int .u8) _ 5 ?hg (N := 11) ?hd (xs := ([(a0_0) % 256] : List Int)) (inner := [.int .u8 ((a0_0) % 256)]) (ok := fun _ => True) (okp := fun _ => True) ?hr ?hp (fun _ hk => hk) trivial (Below.refl _ _) (Nat.le_refl _) (by simp) ?_; (case hd => rfl); (case hg => rfl); (case hr => first | (go_simp; done) | (go_simp; rfl)); (case hp => exact (Reps.one (show Kd.M (Kd.int .u8) _ _ _ ((a0_0) % 256) [.int .u8 ((a0_0) % 256)] from rfl) (Reps.none _ _)))
                intro v153 w15 ho16 hb hg_ hnew_
                clear hg_ hnew_
                (first | rw [← Ny152.out] at ho16 | (simp only [Int.reduceToNat] at ho16; rw [← Ny152.out] at ho16))
                have n0_ := Aside0.mk (Kd.R_lower ho16 (below_size (by repeat (first | (with_reducible first | exact HB.out | apply below_alloc | apply pw_below_drewN | apply below_drew1 | refine below_set ?_ GE150.out) | exact HB.out))))
                have n1_ := Aside0.mk (blk_below (g := gb150) (o := .cells #[.int .i64 a0_0, .int .u64 a0_1, .int .u64 a0_2, .slice A0_3 l0_3.length c0_3] 31 (0, 0)) (by (with_reducible repeat (first | refine blk_drewN ?_ _ | refine blk_drew ?_ | refine blk_alloc ?_ _)); exact BK150.out) hb)
                have n2_ := Aside0.mk (below_step (by repeat (first | (with_reducible first | exact HB.out | apply below_alloc | apply pw_below_drewN | apply below_drew1 | refine below_set ?_ GE150.out) | exact HB.out)) hb)
                clear BK150
                clear HB
                have HO154 := n0_
                have BK150 := n1_
                have HB := n2_
                clear n0_ n1_ n2_
                clear hb ho16
                refine hK.out _ _ ⟨(blk_cell BK150.out 0).trans rfl, (blk_cell BK150.out 1).trans rfl, (blk_cell BK150.out 2).trans rfl, (blk_cell BK150.out 3).trans rfl⟩ (fun hHeld => ?_)
                clear hK K
                refine norm_ (a' := ?_) ?_ ?_
                rotate_left
                · show Act.put _ (some 11) _ = _
                  simp only [Act.put, List.setIfInBounds_toArray, List.set_cons_zero, List.set_cons_succ, i64_w, i32_w]
                  rfl
                refine one_ (i := 12) (N := some 20) #[true, true, true, true, true, true, true, true, true, true, true, true, true, false, false, false] rfl rfl (one_of HT_.out (by kernel_rfl)) (by decide) (fun K hK => ?_)
                refine Kd.R_lit_step (Kd.int .u64) _ 22 ?hg (N := 20) ?hd (xs := ([a0_1, a0_2, IntKind.u64.wrap ((l0_3.length : Int))] : List Int)) (inner := [.int .u64 a0_1, .int .u64 a0_2, .int .u64 (IntKind.u64.wrap ((l0_3.length : Int)))]) (ok := fun _ => True) (okp := fun _ => True) ?hr ?hp (fun _ hk => hk) trivial (Below.refl _ _) (Nat.le_refl _) (by simp) ?_; (case hd => rfl); (case hg => rfl); (case hr => first | (go_simp; done) | (go_simp; rfl)); (case hp => exact (Reps.one (show Kd.M (Kd.int .u64) _ _ _ a0_1 [.int .u64 a0_1] from rfl) (Reps.one (show Kd.M (Kd.int .u64) _ _ _ a0_2 [.int .u64 a0_2] from rfl) (Reps.one (show Kd.M (Kd.int .u64) _ _ _ (IntKind.u64.wrap ((l0_3.length : Int))) [.int .u64 (IntKind.u64.wrap ((l0_3.length : Int)))] from rfl) (Reps.none _ _)))))
                intro v156 w17 ho18 hb hg_ hnew_
                clear hg_ hnew_
                (first | rw [← Ny155.out] at ho18 | (simp only [Int.reduceToNat] at ho18; rw [← Ny155.out] at ho18))
                have n0_ := Aside0.mk (Kd.R_below (by (with_reducible repeat (first | apply Kd.R_alloc | apply Kd.R_drewN | apply Kd.R_drew)); exact HO154.out) hb)
                have n1_ := Aside0.mk (Kd.R_lower ho18 (below_size (by repeat (first | (with_reducible first | exact HB.out | apply below_alloc | apply pw_below_drewN | apply below_drew1 | refine below_set ?_ GE150.out) | exact HB.out))))
                have n2_ := Aside0.mk (blk_below (g := gb150) (o := .cells #[.int .i64 a0_0, .int .u64 a0_1, .int .u64 a0_2, .slice A0_3 l0_3.length c0_3] 31 (0, 0)) (by (with_reducible repeat (first | refine blk_drewN ?_ _ | refine blk_drew ?_ | refine blk_alloc ?_ _)); exact BK150.out) hb)
                have n3_ := Aside0.mk (below_step (by repeat (first | (with_reducible first | exact HB.out | apply below_alloc | apply pw_below_drewN | apply below_drew1 | refine below_set ?_ GE150.out) | exact HB.out)) hb)
                clear HO154
                clear BK150
                clear HB
                have HO154 := n0_
                have HO157 := n1_
                have BK150 := n2_
                have HB := n3_
                clear n0_ n1_ n2_ n3_
                clear hb ho18
                obtain ⟨Ao19, co19, eo19⟩ := Kd.R_slice HO157.out
                (first | subst eo19 | (injection eo19 with f1_ f2_ f3_; have f4_ := f1_.symm; have f5_ := f3_.symm; clear f1_ f2_ f3_; subst f4_; subst f5_))
                refine hK.out _ _ ⟨(blk_cell BK150.out 0).trans rfl, (blk_cell BK150.out 1).trans rfl, (blk_cell BK150.out 2).trans rfl, (blk_cell BK150.out 3).trans rfl⟩ (fun hHeld => ?_)
                clear hK K
                refine norm_ (a' := ?_) ?_ ?_
                rotate_left
                · show Act.put _ (some 20) _ = _
                  simp only [Act.put, List.setIfInBounds_toArray, List.set_cons_zero, List.set_cons_succ, i64_w, i32_w]
                  rfl
                refine one_ (i := 13) (N := some 21) #[true, true, true, true, true, true, true, true, true, true, true, true, true, true, false, false] rfl rfl (one_of HT_.out (by kernel_rfl)) (by decide) (fun K hK => ?_)
                refine goes_ Try.func37 (by kernel_rfl) rfl #[.slice Ao19 y155.length co19] (by rfl) rfl rfl (by (try simp only [List.map_toArray, List.map_cons, List.map_nil]); first | done | rfl | (simp only [List.length_drop, List.length_take]; rfl)) ?_
                with_reducible refine (tikref13_nums.calls k _ _ y155 t158 _ ?side1 ?side2 A4.out).mono ?_
                (case side1 => repeat (first | exact (Kd.R_reads' HO157.out).2.2 | (with_reducible refine Kd.C_alloc ?_ _) | (with_reducible refine Kd.C_drewN ?_ _) | (with_reducible refine Kd.C_drew ?_)))
                (case side2 => exact (Kd.R_reads' HO157.out).2.1)
                rintro e w20 ⟨v159, rfl, ho0, hb⟩
                refine ⟨_, rfl, ?_⟩
                have n0_ := Aside0.mk (Kd.R_elder' (by (with_reducible repeat (first | apply Kd.R_alloc | apply Kd.R_drewN | apply Kd.R_drew)); exact HO154.out) (Kd.R_base ho0) hb)
                have n1_ := Aside0.mk (Kd.R_below (by (with_reducible repeat (first | apply Kd.R_alloc | apply Kd.R_drewN | apply Kd.R_drew)); exact HO157.out) hb)
                have n2_ := Aside0.mk (Kd.R_lower (Kd.R_new' ho0 (Kd.R_lt (by (with_reducible repeat (first | apply Kd.R_alloc | apply Kd.R_drewN | apply Kd.R_drew)); exact HO154.out))) (below_size (by repeat (first | (with_reducible first | exact HB.out | apply below_alloc | apply pw_below_drewN | apply below_drew1 | refine below_set ?_ GE150.out) | exact HB.out))))
                have n3_ := Aside0.mk (blk_below (g := gb150) (o := .cells #[.int .i64 a0_0, .int .u64 a0_1, .int .u64 a0_2, .slice A0_3 l0_3.length c0_3] 31 (0, 0)) (by (with_reducible repeat (first | refine blk_drewN ?_ _ | refine blk_drew ?_ | refine blk_alloc ?_ _)); exact BK150.out) hb)
                have n4_ := Aside0.mk (below_step (by repeat (first | (with_reducible first | exact HB.out | apply below_alloc | apply pw_below_drewN | apply below_drew1 | refine below_set ?_ GE150.out) | exact HB.out)) hb)
                clear HO154
                clear HO157
                clear BK150
                clear HB
                have HO154 := n0_
                have HO157 := n1_
                have HO160 := n2_
                have BK150 := n3_
                have HB := n4_
                clear n0_ n1_ n2_ n3_ n4_
                (try clear hb)
                (try clear hb2)
                (try clear hk)
                (try clear hi)
                (try clear ho0)
                refine hK.out _ _ ⟨(blk_cell BK150.out 0).trans rfl, (blk_cell BK150.out 1).trans rfl, (blk_cell BK150.out 2).trans rfl, (blk_cell BK150.out 3).trans rfl⟩ (fun hHeld => ?_)
                clear hK K
                refine norm_ (a' := ?_) ?_ ?_
                rotate_left
                · show Act.put _ (some 21) _ = _
                  simp only [Act.put, List.setIfInBounds_toArray, List.set_cons_zero, List.set_cons_succ, i64_w, i32_w]
                  rfl
                exact norm_ (by simp only [putAll, Act.put, List.setIfInBounds_toArray, List.set_cons_zero, List.set_cons_succ]) (hCont (v153, .slice Ao19 y155.length co19, v159) _ ⟨hHeld, (by (with_reducible repeat (first | apply Kd.R_alloc | apply Kd.R_drewN | apply Kd.R_drew)); exact Kd.R_mono HO154.out (fun _ hk => hk.2)), (by (with_reducible repeat (first | apply Kd.R_alloc | apply Kd.R_drewN | apply Kd.R_drew)); exact HO157.out), (by (with_reducible repeat (first | apply Kd.R_alloc | apply Kd.R_drewN | apply Kd.R_drew)); exact Kd.R_mono HO160.out (fun _ hk => hk.2)), (by (with_reducible repeat (first | refine blk_drewN ?_ _ | refine blk_drew ?_ | refine blk_alloc ?_ _)); exact BK150.out), (by repeat (first | (with_reducible first | exact HB.out | apply below_alloc | apply pw_below_drewN | apply below_drew1 | refine below_set ?_ GE150.out) | exact HB.out))⟩)
              · skip
                refine Kd.R_lit_step (Kd.int .u64) _ 22 ?hg (N := 20) ?hd (xs := ([a0_1, a0_2, IntKind.u64.wrap ((l0_3.length : Int))] : List Int)) (inner := [.int .u64 a0_1, .int .u64 a0_2, .int .u64 (IntKind.u64.wrap ((l0_3.length : Int)))]) (ok := fun _ => True) (okp := fun _ => True) ?hr ?hp (fun _ hk => hk) trivial (Below.refl _ _) (Nat.le_refl _) (by simp) ?_; (case hd => rfl); (case hg => rfl); (case hr => first | (go_simp; done) | (go_simp; rfl)); (case hp => exact (Reps.one (show Kd.M (Kd.int .u64) _ _ _ a0_1 [.int .u64 a0_1] from rfl) (Reps.one (show Kd.M (Kd.int .u64) _ _ _ a0_2 [.int .u64 a0_2] from rfl) (Reps.one (show Kd.M (Kd.int .u64) _ _ _ (IntKind.u64.wrap ((l0_3.length : Int))) [.int .u64 (IntKind.u64.wrap ((l0_3.length : Int)))] from rfl) (Reps.none _ _)))))
                intro v156 w15 ho16 hb hg_ hnew_
                clear hg_ hnew_
                (first | rw [← Ny155.out] at ho16 | (simp only [Int.reduceToNat] at ho16; rw [← Ny155.out] at ho16))
                have n0_ := Aside0.mk (Kd.R_lower ho16 (below_size (by repeat (first | (with_reducible first | exact HB.out | apply below_alloc | apply pw_below_drewN | apply below_drew1 | refine below_set ?_ GE150.out) | exact HB.out))))
                have n1_ := Aside0.mk (blk_below (g := gb150) (o := .cells #[.int .i64 a0_0, .int .u64 a0_1, .int .u64 a0_2, .slice A0_3 l0_3.length c0_3] 31 (0, 0)) (by (with_reducible repeat (first | refine blk_drewN ?_ _ | refine blk_drew ?_ | refine blk_alloc ?_ _)); exact BK150.out) hb)
                have n2_ := Aside0.mk (below_step (by repeat (first | (with_reducible first | exact HB.out | apply below_alloc | apply pw_below_drewN | apply below_drew1 | refine below_set ?_ GE150.out) | exact HB.out)) hb)
                clear BK150
                clear HB
                have HO157 := n0_
                have BK150 := n1_
                have HB := n2_
                clear n0_ n1_ n2_
                clear hb ho16
                refine hK.out _ _ ⟨(blk_cell BK150.out 0).trans rfl, (blk_cell BK150.out 1).trans rfl, (blk_cell BK150.out 2).trans rfl, (blk_cell BK150.out 3).trans rfl⟩ (fun hHeld => ?_)
                clear hK K
                refine norm_ (a' := ?_) ?_ ?_
                rotate_left
                · show Act.put _ (some 20) _ = _
                  simp only [Act.put, List.setIfInBounds_toArray, List.set_cons_zero, List.set_cons_succ, i64_w, i32_w]
                  rfl
                refine two_ (i := 3) (j := 13) (Ni := some 11) (Nj := some 21) #[true, true, true, true, true, true, true, true, true, true, true, true, true, false, false, false] #[true, true, true, false, true, true, true, true, true, true, true, true, true, true, false, false] rfl rfl rfl rfl (two_of HT_.out (by kernel_rfl)) (by decide) (by decide) (fun K hK => ?_) (fun K hK => ?_)
                · skip
                  refine Kd.R_lit_step (Kd.int .u8) _ 5 ?hg (N := 11) ?hd (xs := ([(a0_0) % 256] : List Int)) (inner := [.int .u8 ((a0_0) % 256)]) (ok := fun _ => True) (okp := fun _ => True) ?hr ?hp (fun _ hk => hk) trivial (Below.refl _ _) (Nat.le_refl _) (by simp) ?_; (case hd => rfl); (case hg => rfl); (case hr => first | (go_simp; done) | (go_simp; rfl)); (case hp => exact (Reps.one (show Kd.M (Kd.int .u8) _ _ _ ((a0_0) % 256) [.int .u8 ((a0_0) % 256)] from rfl) (Reps.none _ _)))
                  intro v153 w17 ho18 hb hg_ hnew_
                  clear hg_ hnew_
                  (first | rw [← Ny152.out] at ho18 | (simp only [Int.reduceToNat] at ho18; rw [← Ny152.out] at ho18))
                  have n0_ := Aside0.mk (Kd.R_below (by (with_reducible repeat (first | apply Kd.R_alloc | apply Kd.R_drewN | apply Kd.R_drew)); exact HO157.out) hb)
                  have n1_ := Aside0.mk (Kd.R_lower ho18 (below_size (by repeat (first | (with_reducible first | exact HB.out | apply below_alloc | apply pw_below_drewN | apply below_drew1 | refine below_set ?_ GE150.out) | exact HB.out))))
                  have n2_ := Aside0.mk (blk_below (g := gb150) (o := .cells #[.int .i64 a0_0, .int .u64 a0_1, .int .u64 a0_2, .slice A0_3 l0_3.length c0_3] 31 (0, 0)) (by (with_reducible repeat (first | refine blk_drewN ?_ _ | refine blk_drew ?_ | refine blk_alloc ?_ _)); exact BK150.out) hb)
                  have n3_ := Aside0.mk (below_step (by repeat (first | (with_reducible first | exact HB.out | apply below_alloc | apply pw_below_drewN | apply below_drew1 | refine below_set ?_ GE150.out) | exact HB.out)) hb)
                  clear HO157
                  clear BK150
                  clear HB
                  have HO157 := n0_
                  have HO154 := n1_
                  have BK150 := n2_
                  have HB := n3_
                  clear n0_ n1_ n2_ n3_
                  clear hb ho18
                  obtain ⟨Ao19, co19, eo19⟩ := Kd.R_slice HO157.out
                  (first | subst eo19 | (injection eo19 with f1_ f2_ f3_; have f4_ := f1_.symm; have f5_ := f3_.symm; clear f1_ f2_ f3_; subst f4_; subst f5_))
                  refine hK.out _ _ ⟨(blk_cell BK150.out 0).trans rfl, (blk_cell BK150.out 1).trans rfl, (blk_cell BK150.out 2).trans rfl, (blk_cell BK150.out 3).trans rfl⟩ (fun hHeld => ?_)
                  clear hK K
                  refine norm_ (a' := ?_) ?_ ?_
                  rotate_left
                  · show Act.put _ (some 11) _ = _
                    simp only [Act.put, List.setIfInBounds_toArray, List.set_cons_zero, List.set_cons_succ, i64_w, i32_w]
                    rfl
                  refine one_ (i := 13) (N := some 21) #[true, true, true, true, true, true, true, true, true, true, true, true, true, true, false, false] rfl rfl (one_of HT_.out (by kernel_rfl)) (by decide) (fun K hK => ?_)
                  refine goes_ Try.func37 (by kernel_rfl) rfl #[.slice Ao19 y155.length co19] (by rfl) rfl rfl (by (try simp only [List.map_toArray, List.map_cons, List.map_nil]); first | done | rfl | (simp only [List.length_drop, List.length_take]; rfl)) ?_
                  with_reducible refine (tikref13_nums.calls k _ _ y155 t158 _ ?side1 ?side2 A4.out).mono ?_
                  (case side1 => repeat (first | exact (Kd.R_reads' HO157.out).2.2 | (with_reducible refine Kd.C_alloc ?_ _) | (with_reducible refine Kd.C_drewN ?_ _) | (with_reducible refine Kd.C_drew ?_)))
                  (case side2 => exact (Kd.R_reads' HO157.out).2.1)
                  rintro e w20 ⟨v159, rfl, ho0, hb⟩
                  refine ⟨_, rfl, ?_⟩
                  have n0_ := Aside0.mk (Kd.R_below (by (with_reducible repeat (first | apply Kd.R_alloc | apply Kd.R_drewN | apply Kd.R_drew)); exact HO157.out) hb)
                  have n1_ := Aside0.mk (Kd.R_elder' (by (with_reducible repeat (first | apply Kd.R_alloc | apply Kd.R_drewN | apply Kd.R_drew)); exact HO154.out) (Kd.R_base ho0) hb)
                  have n2_ := Aside0.mk (Kd.R_lower (Kd.R_new' ho0 (Kd.R_lt (by (with_reducible repeat (first | apply Kd.R_alloc | apply Kd.R_drewN | apply Kd.R_drew)); exact HO154.out))) (below_size (by repeat (first | (with_reducible first | exact HB.out | apply below_alloc | apply pw_below_drewN | apply below_drew1 | refine below_set ?_ GE150.out) | exact HB.out))))
                  have n3_ := Aside0.mk (blk_below (g := gb150) (o := .cells #[.int .i64 a0_0, .int .u64 a0_1, .int .u64 a0_2, .slice A0_3 l0_3.length c0_3] 31 (0, 0)) (by (with_reducible repeat (first | refine blk_drewN ?_ _ | refine blk_drew ?_ | refine blk_alloc ?_ _)); exact BK150.out) hb)
                  have n4_ := Aside0.mk (below_step (by repeat (first | (with_reducible first | exact HB.out | apply below_alloc | apply pw_below_drewN | apply below_drew1 | refine below_set ?_ GE150.out) | exact HB.out)) hb)
                  clear HO157
                  clear HO154
                  clear BK150
                  clear HB
                  have HO157 := n0_
                  have HO154 := n1_
                  have HO160 := n2_
                  have BK150 := n3_
                  have HB := n4_
                  clear n0_ n1_ n2_ n3_ n4_
                  (try clear hb)
                  (try clear hb2)
                  (try clear hk)
                  (try clear hi)
                  (try clear ho0)
                  refine hK.out _ _ ⟨(blk_cell BK150.out 0).trans rfl, (blk_cell BK150.out 1).trans rfl, (blk_cell BK150.out 2).trans rfl, (blk_cell BK150.out 3).trans rfl⟩ (fun hHeld => ?_)
                  clear hK K
                  refine norm_ (a' := ?_) ?_ ?_
                  rotate_left
                  · show Act.put _ (some 21) _ = _
                    simp only [Act.put, List.setIfInBounds_toArray, List.set_cons_zero, List.set_cons_succ, i64_w, i32_w]
                    rfl
                  exact norm_ (by simp only [putAll, Act.put, List.setIfInBounds_toArray, List.set_cons_zero, List.set_cons_succ]) (hCont (v153, .slice Ao19 y155.length co19, v159) _ ⟨hHeld, (by (with_reducible repeat (first | apply Kd.R_alloc | apply Kd.R_drewN | apply Kd.R_drew)); exact Kd.R_mono HO154.out (fun _ hk => hk.2)), (by (with_reducible repeat (first | apply Kd.R_alloc | apply Kd.R_drewN | apply Kd.R_drew)); exact HO157.out), (by (with_reducible repeat (first | apply Kd.R_alloc | apply Kd.R_drewN | apply Kd.R_drew)); exact Kd.R_mono HO160.out (fun _ hk => hk.2)), (by (with_reducible repeat (first | refine blk_drewN ?_ _ | refine blk_drew ?_ | refine blk_alloc ?_ _)); exact BK150.out), (by repeat (first | (with_reducible first | exact HB.out | apply below_alloc | apply pw_below_drewN | apply below_drew1 | refine below_set ?_ GE150.out) | exact HB.out))⟩)
                · obtain ⟨Ao17, co17, eo17⟩ := Kd.R_slice HO157.out
                  (first | subst eo17 | (injection eo17 with f1_ f2_ f3_; have f4_ := f1_.symm; have f5_ := f3_.symm; clear f1_ f2_ f3_; subst f4_; subst f5_))
                  refine goes_ Try.func37 (by kernel_rfl) rfl #[.slice Ao17 y155.length co17] (by rfl) rfl rfl (by (try simp only [List.map_toArray, List.map_cons, List.map_nil]); first | done | rfl | (simp only [List.length_drop, List.length_take]; rfl)) ?_
                  with_reducible refine (tikref13_nums.calls k _ _ y155 t158 _ ?side1 ?side2 A4.out).mono ?_
                  (case side1 => repeat (first | exact (Kd.R_reads' HO157.out).2.2 | (with_reducible refine Kd.C_alloc ?_ _) | (with_reducible refine Kd.C_drewN ?_ _) | (with_reducible refine Kd.C_drew ?_)))
                  (case side2 => exact (Kd.R_reads' HO157.out).2.1)
                  rintro e w18 ⟨v159, rfl, ho0, hb⟩
                  refine ⟨_, rfl, ?_⟩
                  have n0_ := Aside0.mk (Kd.R_below (by (with_reducible repeat (first | apply Kd.R_alloc | apply Kd.R_drewN | apply Kd.R_drew)); exact HO157.out) hb)
                  have n1_ := Aside0.mk (Kd.R_lower ho0 (below_size (by repeat (first | (with_reducible first | exact HB.out | apply below_alloc | apply pw_below_drewN | apply below_drew1 | refine below_set ?_ GE150.out) | exact HB.out))))
                  have n2_ := Aside0.mk (blk_below (g := gb150) (o := .cells #[.int .i64 a0_0, .int .u64 a0_1, .int .u64 a0_2, .slice A0_3 l0_3.length c0_3] 31 (0, 0)) (by (with_reducible repeat (first | refine blk_drewN ?_ _ | refine blk_drew ?_ | refine blk_alloc ?_ _)); exact BK150.out) hb)
                  have n3_ := Aside0.mk (below_step (by repeat (first | (with_reducible first | exact HB.out | apply below_alloc | apply pw_below_drewN | apply below_drew1 | refine below_set ?_ GE150.out) | exact HB.out)) hb)
                  clear HO157
                  clear BK150
                  clear HB
                  have HO157 := n0_
                  have HO160 := n1_
                  have BK150 := n2_
                  have HB := n3_
                  clear n0_ n1_ n2_ n3_
                  (try clear hb)
                  (try clear hb2)
                  (try clear hk)
                  (try clear hi)
                  (try clear ho0)
                  refine hK.out _ _ ⟨(blk_cell BK150.out 0).trans rfl, (blk_cell BK150.out 1).trans rfl, (blk_cell BK150.out 2).trans rfl, (blk_cell BK150.out 3).trans rfl⟩ (fun hHeld => ?_)
                  clear hK K
                  refine norm_ (a' := ?_) ?_ ?_
                  rotate_left
                  · show Act.put _ (some 21) _ = _
                    simp only [Act.put, List.setIfInBounds_toArray, List.set_cons_zero, List.set_cons_succ, i64_w, i32_w]
                    rfl
                  refine one_ (i := 3) (N := some 11) #[true, true, true, true, true, true, true, true, true, true, true, true, true, true, false, false] rfl rfl (one_of HT_.out (by kernel_rfl)) (by decide) (fun K hK => ?_)
                  refine Kd.R_lit_step (Kd.int .u8) _ 5 ?hg (N := 11) ?hd (xs := ([(a0_0) % 256] : List Int)) (inner := [.int .u8 ((a0_0) % 256)]) (ok := fun _ => True) (okp := fun _ => True) ?hr ?hp (fun _ hk => hk) trivial (Below.refl _ _) (Nat.le_refl _) (by simp) ?_; (case hd => rfl); (case hg => rfl); (case hr => first | (go_simp; done) | (go_simp; rfl)); (case hp => exact (Reps.one (show Kd.M (Kd.int .u8) _ _ _ ((a0_0) % 256) [.int .u8 ((a0_0) % 256)] from rfl) (Reps.none _ _)))
                  intro v153 w19 ho20 hb hg_ hnew_
                  clear hg_ hnew_
                  (first | rw [← Ny152.out] at ho20 | (simp only [Int.reduceToNat] at ho20; rw [← Ny152.out] at ho20))
                  have n0_ := Aside0.mk (Kd.R_below (by (with_reducible repeat (first | apply Kd.R_alloc | apply Kd.R_drewN | apply Kd.R_drew)); exact HO157.out) hb)
                  have n1_ := Aside0.mk (Kd.R_elder' (by (with_reducible repeat (first | apply Kd.R_alloc | apply Kd.R_drewN | apply Kd.R_drew)); exact HO160.out) (Kd.R_base ho20) hb)
                  have n2_ := Aside0.mk (Kd.R_lower (Kd.R_new' ho20 (Kd.R_lt (by (with_reducible repeat (first | apply Kd.R_alloc | apply Kd.R_drewN | apply Kd.R_drew)); exact HO160.out))) (below_size (by repeat (first | (with_reducible first | exact HB.out | apply below_alloc | apply pw_below_drewN | apply below_drew1 | refine below_set ?_ GE150.out) | exact HB.out))))
                  have n3_ := Aside0.mk (blk_below (g := gb150) (o := .cells #[.int .i64 a0_0, .int .u64 a0_1, .int .u64 a0_2, .slice A0_3 l0_3.length c0_3] 31 (0, 0)) (by (with_reducible repeat (first | refine blk_drewN ?_ _ | refine blk_drew ?_ | refine blk_alloc ?_ _)); exact BK150.out) hb)
                  have n4_ := Aside0.mk (below_step (by repeat (first | (with_reducible first | exact HB.out | apply below_alloc | apply pw_below_drewN | apply below_drew1 | refine below_set ?_ GE150.out) | exact HB.out)) hb)
                  clear HO157
                  clear HO160
                  clear BK150
                  clear HB
                  have HO157 := n0_
                  have HO160 := n1_
                  have HO154 := n2_
                  have BK150 := n3_
                  have HB := n4_
                  clear n0_ n1_ n2_ n3_ n4_
                  clear hb ho20
                  refine hK.out _ _ ⟨(blk_cell BK150.out 0).trans rfl, (blk_cell BK150.out 1).trans rfl, (blk_cell BK150.out 2).trans rfl, (blk_cell BK150.out 3).trans rfl⟩ (fun hHeld => ?_)
                  clear hK K
                  refine norm_ (a' := ?_) ?_ ?_
                  rotate_left
                  · show Act.put _ (some 11) _ = _
                    simp only [Act.put, List.setIfInBounds_toArray, List.set_cons_zero, List.set_cons_succ, i64_w, i32_w]
                    rfl
                  exact norm_ (by simp only [putAll, Act.put, List.setIfInBounds_toArray, List.set_cons_zero, List.set_cons_succ]) (hCont (v153, .slice Ao17 y155.length co17, v159) _ ⟨hHeld, (by (with_reducible repeat (first | apply Kd.R_alloc | apply Kd.R_drewN | apply Kd.R_drew)); exact Kd.R_mono HO154.out (fun _ hk => hk.2)), (by (with_reducible repeat (first | apply Kd.R_alloc | apply Kd.R_drewN | apply Kd.R_drew)); exact HO157.out), (by (with_reducible repeat (first | apply Kd.R_alloc | apply Kd.R_drewN | apply Kd.R_drew)); exact Kd.R_mono HO160.out (fun _ hk => hk.2)), (by (with_reducible repeat (first | refine blk_drewN ?_ _ | refine blk_drew ?_ | refine blk_alloc ?_ _)); exact BK150.out), (by repeat (first | (with_reducible first | exact HB.out | apply below_alloc | apply pw_below_drewN | apply below_drew1 | refine below_set ?_ GE150.out) | exact HB.out))⟩)
            rintro ⟨v153, v156, v159⟩ w21 ⟨hS_, h0_, h1_, h2_, h3_, h4_⟩
            have n0_ : Aside0 (Kd.R (Kd.int .u8) 5 w21 w.heap.size (fun k_ => some k_ ≠ (v159 : Value).ownBlock) v153 y152) := ⟨h0_⟩
            have n1_ : Aside0 (Kd.R (Kd.int .u64) 22 w21 w.heap.size (fun _ => True) v156 y155) := ⟨h1_⟩
            have n2_ : Aside0 (Kd.R (Kd.int .u8) 5 w21 w.heap.size (fun k_ => some k_ ≠ (v153 : Value).ownBlock) v159 t158) := ⟨h2_⟩
            have n3_ : Aside0 (w21.heap[gb150]? = some (.cells #[.int .i64 a0_0, .int .u64 a0_1, .int .u64 a0_2, .slice A0_3 l0_3.length c0_3] 31 (0, 0))) := ⟨h3_⟩
            have n4_ : Aside0 (Below w.heap.size w w21) := ⟨h4_⟩
            clear BK150
            clear HB
            clear h0_ h1_ h2_ h3_ h4_
            have HO154 := n0_
            have HO157 := n1_
            have HO160 := n2_
            have BK150 := n3_
            have HB := n4_
            clear n0_ n1_ n2_ n3_ n4_
            have hHeld : w21.cell? ⟨gb150, 0, none⟩ = some (.int .i64 a0_0) ∧ w21.cell? ⟨gb150, 1, none⟩ = some (.int .u64 a0_1) ∧ w21.cell? ⟨gb150, 2, none⟩ = some (.int .u64 a0_2) ∧ w21.cell? ⟨gb150, 3, none⟩ = some (.slice A0_3 l0_3.length c0_3) := hS_
            obtain ⟨Ao23, co23, eo23⟩ := Kd.R_slice HO160.out
            (first | subst eo23 | (injection eo23 with f1_ f2_ f3_; have f4_ := f1_.symm; have f5_ := f3_.symm; clear f1_ f2_ f3_; subst f4_; subst f5_))
            refine norm_ (a' := ?_) ?_ ?_
            rotate_left
            · simp only [putAll, Act.put, List.setIfInBounds_toArray, List.set_cons_zero, List.set_cons_succ]
              rfl
            refine one_ (i := 14) (N := some 22) #[true, true, true, true, true, true, true, true, true, true, true, true, true, true, true, false] rfl rfl (one_of HT_.out (by kernel_rfl)) (by decide) (fun K hK => ?_)
            refine Kd.R_append_rows_step (Kd.int .u8) (w0 := w) w.heap.size (by rfl) (.tmp 11) (.tmp 21) 23 5 (.int .u8 0) 1 rfl Try.underlying23 info5 rfl (by decide) (by omega) v153 y152 t158 _ _ _ (fun k_ => some k_ ≠ (.slice Ao23 t158.length co23 : Value).ownBlock) (fun _ => False) rfl rfl ?aO ?aR (fun _ _ h => h) (fun _ h => h.elim) ?aF ?aB ?aS ?aL ?_
            (case aR => repeat (first | exact (Kd.R_reads' HO160.out).2.2 | (with_reducible refine Kd.C_alloc ?_ _) | (with_reducible refine Kd.C_drewN ?_ _) | (with_reducible refine Kd.C_drew ?_)))
            (case aB => exact (by repeat (first | (with_reducible first | exact HB.out | apply below_alloc | apply pw_below_drewN | apply below_drew1 | refine below_set ?_ GE150.out) | exact HB.out)))
            (case aF => exact (fun k_ hk => Kd.fresh' (Kd.R_lt (by (with_reducible repeat (first | apply Kd.R_alloc | apply Kd.R_drewN | apply Kd.R_drew)); exact HO160.out)) k_ hk))
            (case aO => exact (by (with_reducible repeat (first | apply Kd.R_alloc | apply Kd.R_drewN | apply Kd.R_drew)); exact HO154.out))
            (case aS => exact (below_size (by repeat (first | (with_reducible first | exact HB.out | apply below_alloc | apply pw_below_drewN | apply below_drew1 | refine below_set ?_ GE150.out) | exact HB.out))))
            (case aL => have := LMc5.out; omega)
            intro v162 w22 ho hb hg hat
            rw [← Ny161.out] at ho
            have n0_ := Aside0.mk (blk_grown (g := gb150) (o := .cells #[.int .i64 a0_0, .int .u64 a0_1, .int .u64 a0_2, .slice A0_3 l0_3.length c0_3] 31 (0, 0)) (by (with_reducible repeat (first | refine blk_drewN ?_ _ | refine blk_drew ?_ | refine blk_alloc ?_ _)); exact BK150.out) hg (Kd.R_ne HO154.out BK150.out (by decide)))
            have n1_ := Aside0.mk (Kd.R_over' (by (with_reducible repeat (first | apply Kd.R_alloc | apply Kd.R_drewN | apply Kd.R_drew)); exact HO157.out) (Kd.R_typed (by (with_reducible repeat (first | apply Kd.R_alloc | apply Kd.R_drewN | apply Kd.R_drew)); exact HO154.out)) (by decide) hg)
            have n2_ := Aside0.mk (Kd.R_after (ok := (fun _ => True)) (by (with_reducible repeat (first | apply Kd.R_alloc | apply Kd.R_drewN | apply Kd.R_drew)); exact Kd.R_mono HO160.out (fun _ hk => ⟨trivial, hk⟩)) hg hat)
            have n3_ := Aside0.mk (hb)
            have n4_ := Aside0.mk (ho)
            clear BK150
            clear HO157
            clear HO160
            clear HB
            clear HO154
            have BK150 := n0_
            have HO157 := n1_
            have HO160 := n2_
            have HB := n3_
            have HO163 := n4_
            clear n0_ n1_ n2_ n3_ n4_
            clear ho hb hg hat
            refine hK.out _ _ ⟨(blk_cell BK150.out 0).trans rfl, (blk_cell BK150.out 1).trans rfl, (blk_cell BK150.out 2).trans rfl, (blk_cell BK150.out 3).trans rfl⟩ (fun hHeld => ?_)
            clear hK K
            refine norm_ (a' := ?_) ?_ ?_
            rotate_left
            · show Act.put _ (some 22) _ = _
              simp only [Act.put, List.setIfInBounds_toArray, List.set_cons_zero, List.set_cons_succ, i64_w, i32_w]
              rfl
            refine pure_ (i := 15) (N := some 4) (v := ?_) (a' := ?_) #[true, true, true, true, true, true, true, true, true, true, true, true, true, true, true, true] rfl rfl (any_of HT_.out (by kernel_rfl)) (fun _ _ _ h => h) (Or.inl ⟨by rfl, ?_⟩) ?_ ?_
            rotate_left
            · intro w'
              go_simp
              with_reducible rfl
            rotate_left
            · simp only [Act.put, List.setIfInBounds_toArray, List.set_cons_zero, List.set_cons_succ, i64_w, i32_w]
              rfl
            refine done_ (done_of HT_.out (by kernel_rfl)) ?_
            have hcz24_0 : w22.cell? ⟨gb150, 0, none⟩ = some (.int .i64 a0_0) := (blk_cell BK150.out 0).trans rfl
            have hcz24_1 : w22.cell? ⟨gb150, 1, none⟩ = some (.int .u64 a0_1) := (blk_cell BK150.out 1).trans rfl
            have hcz24_2 : w22.cell? ⟨gb150, 2, none⟩ = some (.int .u64 a0_2) := (blk_cell BK150.out 2).trans rfl
            have hcz24_3 : w22.cell? ⟨gb150, 3, none⟩ = some (.slice A0_3 l0_3.length c0_3) := (blk_cell BK150.out 3).trans rfl
            have hfz24_0 := blk_frozen BK150.out 0
            have hfz24_1 := blk_frozen BK150.out 1
            have hfz24_2 := blk_frozen BK150.out 2
            have hfz24_3 := blk_frozen BK150.out 3
            try go_wp2_with (first | ((with_reducible refine gate_builtin (b := .append) (xs := #[.tmp 23, .tmp 25]) rfl ?_); at_builtin; refine Kd.R_append_rows (Kd.int .u8) (w0 := w) w.heap.size rfl (.tmp 23) (.tmp 25) 23 5 (.int .u8 0) 1 rfl Try.underlying23 info5 rfl (by decide) (by omega) v162 y161 l0_3 _ _ _ (fun k_ => some k_ ≠ (.slice Ao23 t158.length co23 : Value).ownBlock) (fun _ => False) rfl rfl ?aO ?aR (fun _ _ h => h) (fun _ h => h.elim) ?aF ?aB ?aS ?aL ?_; (case aR => repeat (first | exact (Kd.C_below HR0_3.out HB.out) | (with_reducible refine Kd.C_alloc ?_ _) | (with_reducible refine Kd.C_drewN ?_ _) | (with_reducible refine Kd.C_drew ?_))); (case aB => exact (by repeat (first | (with_reducible first | exact HB.out | apply below_alloc | apply pw_below_drewN | apply below_drew1 | refine below_set ?_ GE150.out) | exact HB.out))); (case aF => exact (fun k_ hk => Kd.fresh' (Kd.R_lt (by (with_reducible repeat (first | apply Kd.R_alloc | apply Kd.R_drewN | apply Kd.R_drew)); exact HO160.out)) k_ hk)); (case aO => exact (by (with_reducible repeat (first | apply Kd.R_alloc | apply Kd.R_drewN | apply Kd.R_drew)); exact HO163.out)); (case aS => exact (below_size (by repeat (first | (with_reducible first | exact HB.out | apply below_alloc | apply pw_below_drewN | apply below_drew1 | refine below_set ?_ GE150.out) | exact HB.out)))); (case aL => have := LMc6.out; omega); intro v165 w25 ho hb hg hat; rw [← Ny164.out] at ho; have n0_ := Aside0.mk (blk_grown (g := gb150) (o := .cells #[.int .i64 a0_0, .int .u64 a0_1, .int .u64 a0_2, .slice A0_3 l0_3.length c0_3] 31 (0, 0)) (by (with_reducible repeat (first | refine blk_drewN ?_ _ | refine blk_drew ?_ | refine blk_alloc ?_ _)); exact BK150.out) hg (Kd.R_ne HO163.out BK150.out (by decide))); have n1_ := Aside0.mk (Kd.R_over' (by (with_reducible repeat (first | apply Kd.R_alloc | apply Kd.R_drewN | apply Kd.R_drew)); exact HO157.out) (Kd.R_typed (by (with_reducible repeat (first | apply Kd.R_alloc | apply Kd.R_drewN | apply Kd.R_drew)); exact HO163.out)) (by decide) hg); have n2_ := Aside0.mk (Kd.R_after (ok := (fun _ => True)) (by (with_reducible repeat (first | apply Kd.R_alloc | apply Kd.R_drewN | apply Kd.R_drew)); exact HO160.out) hg hat); have n3_ := Aside0.mk (hb); have n4_ := Aside0.mk (ho); clear BK150; clear HO157; clear HO160; clear HB; clear HO163; have BK150 := n0_; have HO157 := n1_; have HO160 := n2_; have HB := n3_; have HO166 := n4_; clear n0_ n1_ n2_ n3_ n4_; clear ho hb hg hat) | ((with_reducible refine gate_dst (N := 27) rfl ?_); refine Kd.R_lit (Kd.int .u8) _ 5 ?hg (N := 27) ?hd (xs := ([167, 92] : List Int)) (inner := [.int .u8 167, .int .u8 92]) (ok := fun _ => True) (okp := fun _ => True) ?hr ?hp (fun _ hk => hk) trivial (Below.refl _ _) (Nat.le_refl _) (by simp) ?_; (case hd => rfl); (case hg => rfl); (case hr => first | (go_simp; done) | (go_simp; rfl)); (case hp => exact (Reps.one (show Kd.M (Kd.int .u8) _ _ _ 167 [.int .u8 167] from rfl) (Reps.one (show Kd.M (Kd.int .u8) _ _ _ 92 [.int .u8 92] from rfl) (Reps.none _ _)))); intro v168 w26 ho27 hb hg_ hnew_; clear hg_ hnew_; (first | rw [← Ny167.out] at ho27 | (simp only [Int.reduceToNat] at ho27; rw [← Ny167.out] at ho27)); have n0_ := Aside0.mk (Kd.R_below (by (with_reducible repeat (first | apply Kd.R_alloc | apply Kd.R_drewN | apply Kd.R_drew)); exact HO157.out) hb); have n1_ := Aside0.mk (Kd.R_elder' (by (with_reducible repeat (first | apply Kd.R_alloc | apply Kd.R_drewN | apply Kd.R_drew)); exact HO160.out) (Kd.R_base ho27) hb); have n2_ := Aside0.mk (Kd.R_elder' (by (with_reducible repeat (first | apply Kd.R_alloc | apply Kd.R_drewN | apply Kd.R_drew)); exact HO166.out) (Kd.R_base ho27) hb); have n3_ := Aside0.mk (Kd.R_lower (Kd.R_new' (Kd.R_new' ho27 (Kd.R_lt (by (with_reducible repeat (first | apply Kd.R_alloc | apply Kd.R_drewN | apply Kd.R_drew)); exact HO160.out))) (Kd.R_lt (by (with_reducible repeat (first | apply Kd.R_alloc | apply Kd.R_drewN | apply Kd.R_drew)); exact HO166.out))) (below_size (by repeat (first | (with_reducible first | exact HB.out | apply below_alloc | apply pw_below_drewN | apply below_drew1 | refine below_set ?_ GE150.out) | exact HB.out)))); have n4_ := Aside0.mk (blk_below (g := gb150) (o := .cells #[.int .i64 a0_0, .int .u64 a0_1, .int .u64 a0_2, .slice A0_3 l0_3.length c0_3] 31 (0, 0)) (by (with_reducible repeat (first | refine blk_drewN ?_ _ | refine blk_drew ?_ | refine blk_alloc ?_ _)); exact BK150.out) hb); have n5_ := Aside0.mk (below_step (by repeat (first | (with_reducible first | exact HB.out | apply below_alloc | apply pw_below_drewN | apply below_drew1 | refine below_set ?_ GE150.out) | exact HB.out)) hb); clear HO157; clear HO160; clear HO166; clear BK150; clear HB; have HO157 := n0_; have HO160 := n1_; have HO166 := n2_; have HO169 := n3_; have BK150 := n4_; have HB := n5_; clear n0_ n1_ n2_ n3_ n4_ n5_; clear hb ho27; obtain ⟨Ao28, co28, eo28⟩ := Kd.R_slice HO166.out; subst eo28) | ((with_reducible refine gate_callee (f := 22) rfl ?_); refine goesL_ (some 29) rfl rfl Try.func22 (by kernel_rfl) rfl #[.slice Ao28 y164.length co28] rfl (by (try simp only [List.map_toArray, List.map_cons, List.map_nil]); first | done | rfl | (simp only [List.length_drop, List.length_take]; rfl)) ?_; (with_reducible refine (tikref2_Crc.calls k _ _ y164 t170 _ ?side1 ?side2 A7.out).mono ?_); (case side1 => repeat (first | exact (Kd.R_reads' HO166.out).2.2 | (with_reducible refine Kd.C_alloc ?_ _) | (with_reducible refine Kd.C_drewN ?_ _) | (with_reducible refine Kd.C_drew ?_))); (case side2 => exact (Kd.R_reads' HO166.out).2.1); rintro e w' ⟨rfl, ⟨nd, rfl⟩⟩; refine ⟨_, rfl, ?_⟩) | ((with_reducible refine gate_callee (f := 38) rfl ?_); refine goesL_ (some 30) rfl rfl Try.func38 (by kernel_rfl) rfl #[.int .u32 t170] rfl (by (try simp only [List.map_toArray, List.map_cons, List.map_nil]); first | done | rfl | (simp only [List.length_drop, List.length_take]; rfl)) ?_; (with_reducible refine (tikref2_Four.calls t170 t171 _ A8.out).mono ?_); rintro e w29 ⟨v172, rfl, ho0, hb⟩; refine ⟨_, rfl, ?_⟩; have n0_ := Aside0.mk (Kd.R_below (by (with_reducible repeat (first | apply Kd.R_alloc | apply Kd.R_drewN | apply Kd.R_drew)); exact HO157.out) hb); have n1_ := Aside0.mk (Kd.R_elder' (by (with_reducible repeat (first | apply Kd.R_alloc | apply Kd.R_drewN | apply Kd.R_drew)); exact HO160.out) (Kd.R_base ho0) hb); have n2_ := Aside0.mk (Kd.R_elder' (by (with_reducible repeat (first | apply Kd.R_alloc | apply Kd.R_drewN | apply Kd.R_drew)); exact HO166.out) (Kd.R_base ho0) hb); have n3_ := Aside0.mk (Kd.R_elder' (by (with_reducible repeat (first | apply Kd.R_alloc | apply Kd.R_drewN | apply Kd.R_drew)); exact HO169.out) (Kd.R_base ho0) hb); have n4_ := Aside0.mk (Kd.R_lower (Kd.R_new' (Kd.R_new' (Kd.R_new' ho0 (Kd.R_lt (by (with_reducible repeat (first | apply Kd.R_alloc | apply Kd.R_drewN | apply Kd.R_drew)); exact HO160.out))) (Kd.R_lt (by (with_reducible repeat (first | apply Kd.R_alloc | apply Kd.R_drewN | apply Kd.R_drew)); exact HO166.out))) (Kd.R_lt (by (with_reducible repeat (first | apply Kd.R_alloc | apply Kd.R_drewN | apply Kd.R_drew)); exact HO169.out))) (below_size (by repeat (first | (with_reducible first | exact HB.out | apply below_alloc | apply pw_below_drewN | apply below_drew1 | refine below_set ?_ GE150.out) | exact HB.out)))); have n5_ := Aside0.mk (blk_below (g := gb150) (o := .cells #[.int .i64 a0_0, .int .u64 a0_1, .int .u64 a0_2, .slice A0_3 l0_3.length c0_3] 31 (0, 0)) (by (with_reducible repeat (first | refine blk_drewN ?_ _ | refine blk_drew ?_ | refine blk_alloc ?_ _)); exact BK150.out) hb); have n6_ := Aside0.mk (below_step (by repeat (first | (with_reducible first | exact HB.out | apply below_alloc | apply pw_below_drewN | apply below_drew1 | refine below_set ?_ GE150.out) | exact HB.out)) hb); clear HO157; clear HO160; clear HO166; clear HO169; clear BK150; clear HB; have HO157 := n0_; have HO160 := n1_; have HO166 := n2_; have HO169 := n3_; have HO173 := n4_; have BK150 := n5_; have HB := n6_; clear n0_ n1_ n2_ n3_ n4_ n5_ n6_; (try clear hb); (try clear hb2); (try clear hk); (try clear hi); (try clear ho0); obtain ⟨Ao31, co31, eo31⟩ := Kd.R_slice HO173.out; subst eo31) | ((with_reducible refine gate_builtin (b := .append) (xs := #[.tmp 27, .tmp 30]) rfl ?_); at_builtin; refine Kd.R_append_rows (Kd.int .u8) (w0 := w) w.heap.size rfl (.tmp 27) (.tmp 30) 23 5 (.int .u8 0) 1 rfl Try.underlying23 info5 rfl (by decide) (by omega) v168 y167 t171 _ _ _ (fun k_ => some k_ ≠ (.slice Ao23 t158.length co23 : Value).ownBlock ∧ some k_ ≠ (.slice Ao28 y164.length co28 : Value).ownBlock ∧ some k_ ≠ (.slice Ao31 t171.length co31 : Value).ownBlock) (fun _ => False) rfl rfl ?aO ?aR (fun _ _ h => h) (fun _ h => h.elim) ?aF ?aB ?aS ?aL ?_; (case aR => repeat (first | exact (Kd.R_reads' HO173.out).2.2 | (with_reducible refine Kd.C_alloc ?_ _) | (with_reducible refine Kd.C_drewN ?_ _) | (with_reducible refine Kd.C_drew ?_))); (case aB => exact (by repeat (first | (with_reducible first | exact HB.out | apply below_alloc | apply pw_below_drewN | apply below_drew1 | refine below_set ?_ GE150.out) | exact HB.out))); (case aF => exact (fun k_ hk => ⟨Kd.fresh' (Kd.R_lt (by (with_reducible repeat (first | apply Kd.R_alloc | apply Kd.R_drewN | apply Kd.R_drew)); exact HO160.out)) k_ hk, Kd.fresh' (Kd.R_lt (by (with_reducible repeat (first | apply Kd.R_alloc | apply Kd.R_drewN | apply Kd.R_drew)); exact HO166.out)) k_ hk, Kd.fresh' (Kd.R_lt (by (with_reducible repeat (first | apply Kd.R_alloc | apply Kd.R_drewN | apply Kd.R_drew)); exact HO173.out)) k_ hk⟩)); (case aO => exact (by (with_reducible repeat (first | apply Kd.R_alloc | apply Kd.R_drewN | apply Kd.R_drew)); exact Kd.R_mono HO169.out (fun _ hk => ⟨hk.1.1.2, ⟨hk.1.2, hk.2⟩⟩))); (case aS => exact (below_size (by repeat (first | (with_reducible first | exact HB.out | apply below_alloc | apply pw_below_drewN | apply below_drew1 | refine below_set ?_ GE150.out) | exact HB.out)))); (case aL => have := LMc9.out; omega); intro v175 w30 ho hb hg hat; rw [← Ny174.out] at ho; have n0_ := Aside0.mk (blk_grown (g := gb150) (o := .cells #[.int .i64 a0_0, .int .u64 a0_1, .int .u64 a0_2, .slice A0_3 l0_3.length c0_3] 31 (0, 0)) (by (with_reducible repeat (first | refine blk_drewN ?_ _ | refine blk_drew ?_ | refine blk_alloc ?_ _)); exact BK150.out) hg (Kd.R_ne HO169.out BK150.out (by decide))); have n1_ := Aside0.mk (Kd.R_over' (by (with_reducible repeat (first | apply Kd.R_alloc | apply Kd.R_drewN | apply Kd.R_drew)); exact HO157.out) (Kd.R_typed (by (with_reducible repeat (first | apply Kd.R_alloc | apply Kd.R_drewN | apply Kd.R_drew)); exact HO169.out)) (by decide) hg); have n2_ := Aside0.mk (Kd.R_after (ok := (fun k_ => some k_ ≠ (.slice Ao28 y164.length co28 : Value).ownBlock ∧ some k_ ≠ (.slice Ao31 t171.length co31 : Value).ownBlock)) (by (with_reducible repeat (first | apply Kd.R_alloc | apply Kd.R_drewN | apply Kd.R_drew)); exact Kd.R_mono HO160.out (fun _ hk => ⟨⟨hk.1.1.2, hk.2⟩, hk.1.2⟩)) hg hat); have n3_ := Aside0.mk (Kd.R_after (ok := (fun k_ => some k_ ≠ (.slice Ao23 t158.length co23 : Value).ownBlock ∧ some k_ ≠ (.slice Ao31 t171.length co31 : Value).ownBlock)) (by (with_reducible repeat (first | apply Kd.R_alloc | apply Kd.R_drewN | apply Kd.R_drew)); exact Kd.R_mono HO166.out (fun _ hk => ⟨⟨hk.1.1, hk.2⟩, hk.1.2⟩)) hg hat); have n4_ := Aside0.mk (Kd.R_after (ok := (fun k_ => some k_ ≠ (.slice Ao23 t158.length co23 : Value).ownBlock ∧ some k_ ≠ (.slice Ao28 y164.length co28 : Value).ownBlock)) (by (with_reducible repeat (first | apply Kd.R_alloc | apply Kd.R_drewN | apply Kd.R_drew)); exact Kd.R_mono HO173.out (fun _ hk => ⟨⟨hk.1.1.2, hk.1.2⟩, hk.2⟩)) hg hat); have n5_ := Aside0.mk (hb); have n6_ := Aside0.mk (ho); clear BK150; clear HO157; clear HO160; clear HO166; clear HO173; clear HB; clear HO169; have BK150 := n0_; have HO157 := n1_; have HO160 := n2_; have HO166 := n3_; have HO173 := n4_; have HB := n5_; have HO176 := n6_; clear n0_ n1_ n2_ n3_ n4_ n5_ n6_; clear ho hb hg hat) | ((with_reducible refine gate_builtin (b := .append) (xs := #[.tmp 31, .tmp 32]) rfl ?_); at_builtin; refine Kd.R_append_rows (Kd.int .u8) (w0 := w) w.heap.size rfl (.tmp 31) (.tmp 32) 23 5 (.int .u8 0) 1 rfl Try.underlying23 info5 rfl (by decide) (by omega) v175 y174 y164 _ _ _ (fun k_ => some k_ ≠ (.slice Ao23 t158.length co23 : Value).ownBlock ∧ some k_ ≠ (.slice Ao28 y164.length co28 : Value).ownBlock ∧ some k_ ≠ (.slice Ao31 t171.length co31 : Value).ownBlock) (fun _ => False) rfl rfl ?aO ?aR (fun _ _ h => h) (fun _ h => h.elim) ?aF ?aB ?aS ?aL ?_; (case aR => repeat (first | exact (Kd.R_reads' HO166.out).2.2 | (with_reducible refine Kd.C_alloc ?_ _) | (with_reducible refine Kd.C_drewN ?_ _) | (with_reducible refine Kd.C_drew ?_))); (case aB => exact (by repeat (first | (with_reducible first | exact HB.out | apply below_alloc | apply pw_below_drewN | apply below_drew1 | refine below_set ?_ GE150.out) | exact HB.out))); (case aF => exact (fun k_ hk => ⟨Kd.fresh' (Kd.R_lt (by (with_reducible repeat (first | apply Kd.R_alloc | apply Kd.R_drewN | apply Kd.R_drew)); exact HO160.out)) k_ hk, Kd.fresh' (Kd.R_lt (by (with_reducible repeat (first | apply Kd.R_alloc | apply Kd.R_drewN | apply Kd.R_drew)); exact HO166.out)) k_ hk, Kd.fresh' (Kd.R_lt (by (with_reducible repeat (first | apply Kd.R_alloc | apply Kd.R_drewN | apply Kd.R_drew)); exact HO173.out)) k_ hk⟩)); (case aO => exact (by (with_reducible repeat (first | apply Kd.R_alloc | apply Kd.R_drewN | apply Kd.R_drew)); exact HO176.out)); (case aS => exact (below_size (by repeat (first | (with_reducible first | exact HB.out | apply below_alloc | apply pw_below_drewN | apply below_drew1 | refine below_set ?_ GE150.out) | exact HB.out)))); (case aL => have := LMc10.out; omega); intro v178 w32 ho hb hg hat; rw [← Ny177.out] at ho; have n0_ := Aside0.mk (blk_grown (g := gb150) (o := .cells #[.int .i64 a0_0, .int .u64 a0_1, .int .u64 a0_2, .slice A0_3 l0_3.length c0_3] 31 (0, 0)) (by (with_reducible repeat (first | refine blk_drewN ?_ _ | refine blk_drew ?_ | refine blk_alloc ?_ _)); exact BK150.out) hg (Kd.R_ne HO176.out BK150.out (by decide))); have n1_ := Aside0.mk (Kd.R_over' (by (with_reducible repeat (first | apply Kd.R_alloc | apply Kd.R_drewN | apply Kd.R_drew)); exact HO157.out) (Kd.R_typed (by (with_reducible repeat (first | apply Kd.R_alloc | apply Kd.R_drewN | apply Kd.R_drew)); exact HO176.out)) (by decide) hg); have n2_ := Aside0.mk (Kd.R_after (ok := (fun k_ => some k_ ≠ (.slice Ao28 y164.length co28 : Value).ownBlock ∧ some k_ ≠ (.slice Ao31 t171.length co31 : Value).ownBlock)) (by (with_reducible repeat (first | apply Kd.R_alloc | apply Kd.R_drewN | apply Kd.R_drew)); exact HO160.out) hg hat); have n3_ := Aside0.mk (Kd.R_after (ok := (fun k_ => some k_ ≠ (.slice Ao23 t158.length co23 : Value).ownBlock ∧ some k_ ≠ (.slice Ao31 t171.length co31 : Value).ownBlock)) (by (with_reducible repeat (first | apply Kd.R_alloc | apply Kd.R_drewN | apply Kd.R_drew)); exact HO166.out) hg hat); have n4_ := Aside0.mk (Kd.R_after (ok := (fun k_ => some k_ ≠ (.slice Ao23 t158.length co23 : Value).ownBlock ∧ some k_ ≠ (.slice Ao28 y164.length co28 : Value).ownBlock)) (by (with_reducible repeat (first | apply Kd.R_alloc | apply Kd.R_drewN | apply Kd.R_drew)); exact HO173.out) hg hat); have n5_ := Aside0.mk (hb); have n6_ := Aside0.mk (ho); clear BK150; clear HO157; clear HO160; clear HO166; clear HO173; clear HB; clear HO176; have BK150 := n0_; have HO157 := n1_; have HO160 := n2_; have HO166 := n3_; have HO173 := n4_; have HB := n5_; have HO179 := n6_; clear n0_ n1_ n2_ n3_ n4_ n5_ n6_; clear ho hb hg hat))
            go_ret2
            exact ⟨_, by first | rfl | (simp [errW_none, errW_some] <;> rfl) | (simp [*, errW_none, errW_some] <;> rfl), by (with_reducible repeat (first | apply Kd.R_alloc | apply Kd.R_drewN | apply Kd.R_drew)); exact Kd.R_mono HO179.out (fun _ hk => trivial), by repeat (first | (with_reducible first | exact HB.out | apply below_alloc | apply pw_below_drewN | apply below_drew1 | refine below_set ?_ GE150.out) | exact HB.out)⟩
          · rw [if_neg c10] at H
            exact absurd H (by simp)
        · rw [if_neg c9] at H
          exact absurd H (by simp)
      · rw [if_neg c6] at H
        exact absurd H (by simp)
    · rw [if_neg c5] at H
      exact absurd H (by simp)
  · replace c3 := Bool.eq_false_iff.mpr c3
    subst c3
    have H1 : (some (([] : List Int), 1)) = some (r1, r2) := by rw [if_neg (show ¬ (false = true) by decide)] at H; exact H
    clear H
    have H := H1
    clear H1
    simp only [Option.some.injEq, Prod.mk.injEq] at H
    obtain ⟨rfl, rfl⟩ := H
    go_enter Try.func12, Try.ntmps12
    go_wp2_with (first | ((with_reducible refine gate_dst (N := 1) rfl ?_); refine box_event ?hg (N := 1) ?hd (cs := #[.int .i64 a0_0, .int .u64 a0_1, .int .u64 a0_2, .slice A0_3 l0_3.length c0_3]) (t := 31) ?hr ?_; (case hd => rfl); (case hg => rfl); (case hr => first | (go_simp; done) | (go_simp; rfl)); intro gb150 hg w33 hbox hb; have n0_ := Aside0.mk (below_step (by repeat (first | (with_reducible first | exact HB.out | apply below_alloc | apply pw_below_drewN | apply below_drew1) | exact HB.out)) hb); have n1_ := Aside0.mk (hbox); have n2_ := Aside0.mk ((by rw [hg]; exact (below_size (by repeat (first | (with_reducible first | exact HB.out | apply below_alloc | apply pw_below_drewN | apply below_drew1) | exact HB.out))) : w.heap.size ≤ gb150)); have n3_ := Aside0.mk ((by rw [hg]; exact (below_size (by repeat (first | (with_reducible first | exact HB.out | apply below_alloc | apply pw_below_drewN | apply below_drew1) | exact HB.out))) : w.heap.size ≤ gb150)); clear HB; have HB := n0_; have BK150 := n1_; have GW150 := n2_; have GE150 := n3_; clear n0_ n1_ n2_ n3_; clear hb hbox hg; have hcz34_0 : w33.cell? ⟨gb150, 0, none⟩ = some (.int .i64 a0_0) := (blk_cell BK150.out 0).trans rfl; have hcz34_1 : w33.cell? ⟨gb150, 1, none⟩ = some (.int .u64 a0_1) := (blk_cell BK150.out 1).trans rfl; have hcz34_2 : w33.cell? ⟨gb150, 2, none⟩ = some (.int .u64 a0_2) := (blk_cell BK150.out 2).trans rfl; have hcz34_3 : w33.cell? ⟨gb150, 3, none⟩ = some (.slice A0_3 l0_3.length c0_3) := (blk_cell BK150.out 3).trans rfl; have hfz34_0 := blk_frozen BK150.out 0; have hfz34_1 := blk_frozen BK150.out 1; have hfz34_2 := blk_frozen BK150.out 2; have hfz34_3 := blk_frozen BK150.out 3) | ((with_reducible refine gate_callee (f := 19) rfl ?_); refine goesL_ (some 6) rfl rfl Try.func19 (by kernel_rfl) rfl #[.agg #[.int .i64 a0_0, .int .u64 a0_1, .int .u64 a0_2, .slice A0_3 l0_3.length c0_3]] rfl (by (try simp only [List.map_toArray, List.map_cons, List.map_nil]); first | done | rfl | (simp only [List.length_drop, List.length_take]; rfl)) ?_; (with_reducible refine (tikref13_MayRecord.calls a0_0 a0_1 a0_2 _ _ l0_3 false _ ?side1 ?side2 A2.out).mono ?_); (case side1 => repeat (first | exact (Kd.C_below HR0_3.out HB.out) | (with_reducible refine Kd.C_alloc ?_ _) | (with_reducible refine Kd.C_drewN ?_ _) | (with_reducible refine Kd.C_drew ?_))); (case side2 => exact HC0_3.out); rintro e w35 ⟨rfl, hb⟩; refine ⟨_, rfl, ?_⟩; have n0_ := Aside0.mk (blk_below (g := gb150) (o := .cells #[.int .i64 a0_0, .int .u64 a0_1, .int .u64 a0_2, .slice A0_3 l0_3.length c0_3] 31 (0, 0)) (by (with_reducible repeat (first | refine blk_drewN ?_ _ | refine blk_drew ?_ | refine blk_alloc ?_ _)); exact BK150.out) hb); have n1_ := Aside0.mk (below_step (by repeat (first | (with_reducible first | exact HB.out | apply below_alloc | apply pw_below_drewN | apply below_drew1 | refine below_set ?_ GE150.out) | exact HB.out)) hb); clear BK150; clear HB; have BK150 := n0_; have HB := n1_; clear n0_ n1_; (try clear hb); (try clear hb2); (try clear hk); (try clear hi)))
    go_ret2
    exact ⟨_, by first | rfl | (simp [errW_none, errW_some] <;> rfl) | (simp [*, errW_none, errW_some] <;> rfl), by first | exact Kd.R_nil _ _ _ _ _ | exact Kd.N_nil _ _ _ _ _ | exact Kd.V_nil _ _ _ _ _ | exact Kd.Q_nil _ _ _ _ _ | exact Kd.S_nil _ _ _ _ _, by repeat (first | (with_reducible first | exact HB.out | apply below_alloc | apply pw_below_drewN | apply below_drew1 | refine below_set ?_ GE150.out) | exact HB.out)⟩
def tiklaw15_Plain.f (a0_0 : Int) (a0_1 : Int) (a0_2 : Int) (l0_3 : List Int) : Option (Int × Int × Int × List Int) := some (a0_0, a0_1, a0_2, l0_3)
set_option maxHeartbeats 8000000 in
set_option maxRecDepth 100000 in
theorem tiklaw15_Plain.calls (a0_0 : Int) (a0_1 : Int) (a0_2 : Int) (P0_3_ : Nat → Prop) (A0_3 : Option Addr) (c0_3 : Nat) (l0_3 : List Int) (r1 : Int) (r2 : Int) (r3 : Int) (r4 : List Int) (w : World) (hs0_3 : Kd.V (Kd.int .u8) 5 w w.heap.size (fun k_ => P0_3_ k_) (.slice A0_3 l0_3.length c0_3) l0_3) (h : tiklaw15_Plain.f a0_0 a0_1 a0_2 l0_3 = some (r1, r2, r3, r4)) :
    Calls Try.prog 13 #[.agg #[.int .i64 a0_0, .int .u64 a0_1, .int .u64 a0_2, .slice A0_3 l0_3.length c0_3]] w fun e w' => ∃ v3_ : Value, e = .returned (.agg #[.int .i64 r1, .int .u64 r2, .int .u64 r3, v3_]) ∧ Kd.V (Kd.int .u8) 5 w' w.heap.size (fun k_ => (P0_3_ k_ ∨ w.heap.size ≤ k_)) v3_ r4 ∧ Below w.heap.size w w' := by
  have hu25 := Try.underlying25
  have hu31 := Try.underlying31
  have HO0_3 := Aside0.mk (show Kd.V (Kd.int .u8) 5 w w.heap.size (fun k_ => (P0_3_ k_ ∨ w.heap.size ≤ k_)) (.slice A0_3 l0_3.length c0_3) l0_3 from Kd.V_mono hs0_3 (fun k_ hk => .inl hk))
  have HB := Aside0.mk (Below.refl w.heap.size w)
  have H : (some (a0_0, a0_1, a0_2, l0_3)) = some (r1, r2, r3, r4) := h
  clear h
  simp only [Option.some.injEq, Prod.mk.injEq] at H
  obtain ⟨rfl, rfl, rfl, rfl⟩ := H
  go_enter Try.func13, Try.ntmps13
  go_wp2_with (first | ((with_reducible refine gate_dst (N := 1) rfl ?_); refine box_event ?hg (N := 1) ?hd (cs := #[.int .i64 a0_0, .int .u64 a0_1, .int .u64 a0_2, .slice A0_3 l0_3.length c0_3]) (t := 25) ?hr ?_; (case hd => rfl); (case hg => rfl); (case hr => first | (go_simp; done) | (go_simp; rfl)); intro gb180 hg w2 hbox hb; have n0_ := Aside0.mk (Kd.V_below (Kd.V_elderB (by (with_reducible repeat (first | apply Kd.V_alloc | apply Kd.V_drewN | apply Kd.V_drew)); exact HO0_3.out) gb180 (Nat.le_of_eq hg.symm)) hb); have n1_ := Aside0.mk (below_step (by repeat (first | (with_reducible first | exact HB.out | apply below_alloc | apply pw_below_drewN | apply below_drew1) | exact HB.out)) hb); have n2_ := Aside0.mk (hbox); have n3_ := Aside0.mk ((by rw [hg]; exact (below_size (by repeat (first | (with_reducible first | exact HB.out | apply below_alloc | apply pw_below_drewN | apply below_drew1) | exact HB.out))) : w.heap.size ≤ gb180)); have n4_ := Aside0.mk ((by rw [hg]; exact (below_size (by repeat (first | (with_reducible first | exact HB.out | apply below_alloc | apply pw_below_drewN | apply below_drew1) | exact HB.out))) : w.heap.size ≤ gb180)); clear HO0_3; clear HB; have HO0_3 := n0_; have HB := n1_; have BK180 := n2_; have GW180 := n3_; have GE180 := n4_; clear n0_ n1_ n2_ n3_ n4_; clear hb hbox hg) | ((with_reducible refine gate_dst (N := 2) rfl ?_); refine box_event ?hg (N := 2) ?hd (cs := #[.int .i64 0, .int .u64 0, .int .u64 0, .slice none 0 0]) (t := 31) ?hr ?_; (case hd => rfl); (case hg => rfl); (case hr => first | (go_simp; done) | (go_simp; rfl)); intro gb181 hg w3 hbox hb; have n0_ := Aside0.mk (Kd.V_below (Kd.V_elderB (by (with_reducible repeat (first | apply Kd.V_alloc | apply Kd.V_drewN | apply Kd.V_drew)); exact HO0_3.out) gb181 (Nat.le_of_eq hg.symm)) hb); have n1_ := Aside0.mk (blk_below (g := gb180) (o := .cells #[.int .i64 a0_0, .int .u64 a0_1, .int .u64 a0_2, .slice A0_3 l0_3.length c0_3] 25 (0, 0)) (by (with_reducible repeat (first | refine blk_drewN ?_ _ | refine blk_drew ?_ | refine blk_alloc ?_ _)); exact BK180.out) hb); have n2_ := Aside0.mk (below_step (by repeat (first | (with_reducible first | exact HB.out | apply below_alloc | apply pw_below_drewN | apply below_drew1 | refine below_set ?_ GE180.out) | exact HB.out)) hb); have n3_ := Aside0.mk (hbox); have n4_ := Aside0.mk ((by rw [hg]; exact (below_size (by repeat (first | (with_reducible first | exact HB.out | apply below_alloc | apply pw_below_drewN | apply below_drew1 | refine below_set ?_ GE180.out) | exact HB.out))) : w.heap.size ≤ gb181)); have n5_ := Aside0.mk ((by rw [hg]; exact (below_size (by repeat (first | (with_reducible first | exact HB.out | apply below_alloc | apply pw_below_drewN | apply below_drew1 | refine below_set ?_ GE180.out) | exact HB.out))) : w.heap.size ≤ gb181)); have n6_ := Aside0.mk ((by rw [hg]; exact Nat.ne_of_lt (blk_lt (g := gb180) (o := .cells #[.int .i64 a0_0, .int .u64 a0_1, .int .u64 a0_2, .slice A0_3 l0_3.length c0_3] 25 (0, 0)) (by (with_reducible repeat (first | refine blk_drewN ?_ _ | refine blk_drew ?_ | refine blk_alloc ?_ _)); exact BK180.out)) : gb180 ≠ gb181)); have n7_ := Aside0.mk ((by rw [hg]; exact Nat.ne_of_gt (blk_lt (g := gb180) (o := .cells #[.int .i64 a0_0, .int .u64 a0_1, .int .u64 a0_2, .slice A0_3 l0_3.length c0_3] 25 (0, 0)) (by (with_reducible repeat (first | refine blk_drewN ?_ _ | refine blk_drew ?_ | refine blk_alloc ?_ _)); exact BK180.out)) : gb181 ≠ gb180)); clear HO0_3; clear BK180; clear HB; have HO0_3 := n0_; have BK180 := n1_; have HB := n2_; have BK181 := n3_; have GW181 := n4_; have GE181 := n5_; have NB180_181 := n6_; have NB181_180 := n7_; clear n0_ n1_ n2_ n3_ n4_ n5_ n6_ n7_; clear hb hbox hg; have hnb4 := NB180_181.out; have hnc4 := NB181_180.out; have hcz5_0 : w3.cell? ⟨gb180, 0, none⟩ = some (.int .i64 a0_0) := (blk_cell BK180.out 0).trans rfl; have hcz5_1 : w3.cell? ⟨gb180, 1, none⟩ = some (.int .u64 a0_1) := (blk_cell BK180.out 1).trans rfl; have hcz5_2 : w3.cell? ⟨gb180, 2, none⟩ = some (.int .u64 a0_2) := (blk_cell BK180.out 2).trans rfl; have hcz5_3 : w3.cell? ⟨gb180, 3, none⟩ = some (.slice A0_3 l0_3.length c0_3) := (blk_cell BK180.out 3).trans rfl; have hfz5_0 := blk_frozen BK180.out 0; have hfz5_1 := blk_frozen BK180.out 1; have hfz5_2 := blk_frozen BK180.out 2; have hfz5_3 := blk_frozen BK180.out 3; have hcz6_0 : w3.cell? ⟨gb181, 0, none⟩ = some (.int .i64 0) := (blk_cell BK181.out 0).trans rfl; have hcz6_1 : w3.cell? ⟨gb181, 1, none⟩ = some (.int .u64 0) := (blk_cell BK181.out 1).trans rfl; have hcz6_2 : w3.cell? ⟨gb181, 2, none⟩ = some (.int .u64 0) := (blk_cell BK181.out 2).trans rfl; have hcz6_3 : w3.cell? ⟨gb181, 3, none⟩ = some (.slice none 0 0) := (blk_cell BK181.out 3).trans rfl; have hfz6_0 := blk_frozen BK181.out 0; have hfz6_1 := blk_frozen BK181.out 1; have hfz6_2 := blk_frozen BK181.out 2; have hfz6_3 := blk_frozen BK181.out 3))
  refine bodyPost_ret (results_cell_row rfl _ _ gb181 31 #[.int .i64 a0_0, .int .u64 a0_1, .int .u64 a0_2, .slice A0_3 l0_3.length c0_3] (0, 0) _ rfl (by (with_reducible repeat (first | refine blk_drewN ?_ _ | refine blk_drew ?_ | refine blk_alloc ?_ _)); refine blk_put (cs := #[.int .i64 a0_0, .int .u64 a0_1, .int .u64 a0_2, .slice none 0 0]) ?_ 3 _ rfl; (with_reducible repeat (first | refine blk_drewN ?_ _ | refine blk_drew ?_ | refine blk_alloc ?_ _)); refine blk_put (cs := #[.int .i64 a0_0, .int .u64 a0_1, .int .u64 0, .slice none 0 0]) ?_ 2 _ rfl; (with_reducible repeat (first | refine blk_drewN ?_ _ | refine blk_drew ?_ | refine blk_alloc ?_ _)); refine blk_put (cs := #[.int .i64 a0_0, .int .u64 0, .int .u64 0, .slice none 0 0]) ?_ 1 _ rfl; (with_reducible repeat (first | refine blk_drewN ?_ _ | refine blk_drew ?_ | refine blk_alloc ?_ _)); refine blk_put (cs := #[.int .i64 0, .int .u64 0, .int .u64 0, .slice none 0 0]) ?_ 0 _ rfl; (with_reducible repeat (first | refine blk_drewN ?_ _ | refine blk_drew ?_ | refine blk_alloc ?_ _)); exact BK181.out) Try.underlying31 rfl (by kernel_rfl)) rfl ?_
  exact ⟨_, by first | rfl | (simp [errW_none, errW_some] <;> rfl) | (simp [*, errW_none, errW_some] <;> rfl), by (with_reducible repeat (first | apply Kd.V_alloc | apply Kd.V_drewN | apply Kd.V_drew)); exact Kd.V_mono (Kd.V_far (p := ⟨gb181, 3, none⟩) (Kd.V_far (p := ⟨gb181, 2, none⟩) (Kd.V_far (p := ⟨gb181, 1, none⟩) (Kd.V_far (p := ⟨gb181, 0, none⟩) (Kd.V_mono HO0_3.out (fun k_ hk => (⟨hk, hk.2⟩ : _ ∧ k_ ≠ gb181))) (fun _ hk => hk.2) (.int .i64 a0_0)) (fun _ hk => hk.2) (.int .u64 a0_1)) (fun _ hk => hk.2) (.int .u64 a0_2)) (fun _ hk => hk.2) (.slice A0_3 l0_3.length c0_3)) (fun _ hk => hk.1.1.1), by repeat (first | (with_reducible first | exact HB.out | apply below_alloc | apply pw_below_drewN | apply below_drew1 | refine below_set ?_ GE180.out | refine below_set ?_ GE181.out) | exact HB.out)⟩
end Go.Proofs.Ytdklanenmihpdaa.PL
namespace Go.Proofs.Ytdklanenmihpdaa.Hand
open Go.RowKit Go.Proofs.YtdklanenmihpdaaW.PrintWords Go.Proofs.YtdklanenmihpdaaW.PrintLast Go.Proofs.Ytdklanenmihpdaa.PA
abbrev refO (k s t : Int) (v : Value) : Obj := .cells #[.int .i64 k, .int .u64 s, .int .u64 t, v] 31 (0, 0)
abbrev arrO (a b c : Int) : Obj := .cells #[.int .u64 a, .int .u64 b, .int .u64 c] 75 (0, 0)
theorem ref_store {W : World} {g : Nat} {k s t : Int} (k' s' t' : Int) {v : Value} (A : Option Addr) (n c : Nat) (h : W.heap[g]? = some (refO k s t v)) :
    ∃ W', (Instr.storeAt 31 (.pointer (some ⟨g, 0, none⟩)) (.agg #[.int .i64 k', .int .u64 s', .int .u64 t', .slice A n c])).run Try.prog W = .ok () W' ∧ W'.heap[g]? = some (refO k' s' t' (.slice A n c)) ∧ Mu (· = g) W W' := by
  refine ⟨W.setRow g #[.int .i64 k', .int .u64 s', .int .u64 t', .slice A n c], ?_, setRow_heap W g _ _ _ _ h, ⟨rfl, rfl, rfl, by simp, fun j _ hj => setRow_other W g j _ hj⟩⟩
  simp only [Instr.storeAt, Instr.sureAddr, Sem.run_bind, Sem.run_pure, Result.andThen_ok, run_storeVar_row (P := Try.prog) W g 31 31 _ #[.int .i64 k', .int .u64 s', .int .u64 t', .slice A n c] h (by kernel_rfl) rfl (by simp [Value.oneCell'])]
theorem ref_load {W : World} {g : Nat} {k s t : Int} {v : Value} (h : W.heap[g]? = some (refO k s t v)) :
    (Instr.loadAt 31 (.pointer (some ⟨g, 0, none⟩))).run Try.prog W = .ok (.agg #[.int .i64 k, .int .u64 s, .int .u64 t, v]) W := by
  simp only [Instr.loadAt, Instr.sureAddr, Sem.run_bind, Sem.run_pure, Result.andThen_ok, run_loadVar_row (P := Try.prog) W g 31 31 _ (0, 0) _ h Try.underlying31 rfl (by kernel_rfl)]
theorem ref_build (W : World) : (Instr.build 31 #[]).run Try.prog W = .ok (.agg #[.int .i64 0, .int .u64 0, .int .u64 0, .slice none 0 0]) W :=
  run_build (P := Try.prog) W 31 #[] _ (by kernel_rfl)
theorem ref_results {tmps : Array Value} {w : World} {p : Nat} {k s t e X : Int} {v : Value} (h4 : tmps[4]? = some (.pointer (some ⟨p, 0, none⟩))) (h5 : tmps[5]? = some (.int .i64 e)) (h6 : tmps[6]? = some (.int .i64 X))
    (g0 : w.heap[p]? = some (refO k s t v)) :
    (results Try.f15 tmps).run Try.prog w = .ok (.tuple #[.agg #[.int .i64 k, .int .u64 s, .int .u64 t, v], .int .i64 e, .int .i64 X]) w := by
  have l0 : (loadVar 31 ⟨p, 0, none⟩).run Try.prog w = .ok (.agg #[.int .i64 k, .int .u64 s, .int .u64 t, v]) w := run_loadVar_row (P := Try.prog) w p 31 31 _ (0, 0) _ g0 Try.underlying31 rfl (by kernel_rfl)
  have hr : Try.f15.results = #[.cell 4 31, .tmp 5, .tmp 6] := by kernel_rfl
  unfold results
  rw [hr]
  simp [h4, h5, h6, l0, asAddr]
theorem ref_fail {w0 w : World} {tmps : Array Value} {X : Int} (h4 : tmps[4]? = some (.pointer (some ⟨w0.heap.size, 0, none⟩))) (h5 : tmps[5]? = some (.int .i64 0)) (h6 : tmps[6]? = some (.int .i64 X))
    (g0 : w.heap[w0.heap.size]? = some (refO 0 0 0 (.slice none 0 0))) (hb : Below w0.heap.size w0 w) : bodyPost Try.prog Try.f15 (DecPost w0 (decOut (.error X))) .ret { tmps := tmps, defers := [] } w :=
  ⟨rfl, _, ref_results h4 h5 h6 g0, _, rfl, Kd.R_nil _ _ _ _ _, hb⟩
theorem rmay_f (k s t : Int) (l : List Int) : tikref13_MayRecord.f k s t l = some (decide (mayL k s t l.length)) := by
  unfold tikref13_MayRecord.f mayL
  by_cases h1 : k = 1 <;> by_cases h2 : k = 2 <;> by_cases h3 : 1 ≤ s <;> by_cases h4 : s ≤ 4611686018427387904 <;> by_cases h5 : t ≤ 4611686018427387904 <;> simp [h1, h2, h3, h4, h5]
theorem cell_below_ {w w' : World} (hb : Below w.heap.size w w') {p : Addr} {v : Value} (h : w.cell? p = some v) : w'.cell? p = some v := (World.cell?_of_block (w := w) (hb.block _ (World.block_lt_of_cell? _ _ h))).trans h
def Stage (l : List Int) (a : Int) : Nat → Int → Int → Int → Int → Prop
  | 0, p, _, _, _ => p = a + 7
  | 1, p, x, _, _ => getV l (a + 7) = (x, p, 0)
  | 2, p, x, y, _ => ∃ p1, getV l (a + 7) = (x, p1, 0) ∧ getV l p1 = (y, p, 0)
  | 3, p, x, y, z => ∃ p1 p2, getV l (a + 7) = (x, p1, 0) ∧ getV l p1 = (y, p2, 0) ∧ getV l p2 = (z, p, 0)
  | _, _, _, _, _ => False
def tail3 (l : List Int) (a n1 n2 n3 p3 : Int) : Except Int (Int × Int × Int × List Int × Int) :=
  if n3 ≤ 1048576 then
  if n3 ≤ (l.length : Int) - p3 then
  if segL l (a + 2) (a + 6) = fourL (crcV (segL l (a + 6) (p3 + n3))) then
  if mayL (rd l (a + 6)) n1 n2 n3 then
  .ok (rd l (a + 6), n1, n2, segL l p3 (p3 + n3), p3 + n3)
  else .error 2 else .error 9 else .error 3 else .error 2
theorem decV_tail {l : List Int} {a n1 p1 n2 p2 n3 p3 : Int} (c1 : 6 ≤ (l.length : Int) - a) (c2 : rd l a = 167 ∧ rd l (a + 1) = 92) (c3 : a + 6 < (l.length : Int)) (h1 : getV l (a + 7) = (n1, p1, 0)) (h2 : getV l p1 = (n2, p2, 0)) (h3 : getV l p2 = (n3, p3, 0)) :
    decV l a = tail3 l a n1 n2 n3 p3 := by
  unfold decV
  rw [if_pos c1, if_pos c2, if_pos c3, h1]
  dsimp only
  rw [h2]
  dsimp only
  rw [h3]
  dsimp only
  rw [if_pos rfl, if_pos rfl, if_pos rfl]
  rfl
theorem stage_fail {l : List Int} {a p x y z n q e : Int} {i : Nat} {R : Except Int (Int × Int × Int × List Int × Int)} (c1 : 6 ≤ (l.length : Int) - a) (c2 : rd l a = 167 ∧ rd l (a + 1) = 92) (c3 : a + 6 < (l.length : Int)) (hR : decV l a = R)
    (hi : i < 3) (hs : Stage l a i p x y z) (hg : getV l p = (n, q, e)) (he : e ≠ 0) : R = .error e := by
  have : i = 0 ∨ i = 1 ∨ i = 2 := by omega
  rw [← hR]
  unfold decV
  rw [if_pos c1, if_pos c2, if_pos c3]
  rcases this with rfl | rfl | rfl
  · obtain rfl : p = a + 7 := hs
    rw [hg]; exact if_neg he
  · have hs : getV l (a + 7) = (x, p, 0) := hs
    rw [hs]
    refine (if_pos rfl).trans ?_
    dsimp only
    rw [hg]; exact if_neg he
  · obtain ⟨p1, h1, h2⟩ := hs
    rw [h1]
    refine (if_pos rfl).trans ?_
    dsimp only
    rw [h2]
    refine (if_pos rfl).trans ?_
    dsimp only
    rw [hg]; exact if_neg he
theorem stage_next {l : List Int} {a p x y z n q : Int} {i : Nat} (hi : i < 3) (hs : Stage l a i p x y z) (hg : getV l p = (n, q, 0)) : Stage l a (i + 1) q (if i = 0 then n else x) (if i = 1 then n else y) (if i = 2 then n else z) := by
  have : i = 0 ∨ i = 1 ∨ i = 2 := by omega
  rcases this with rfl | rfl | rfl
  · obtain rfl : p = a + 7 := hs
    exact hg
  · exact ⟨p, hs, hg⟩
  · obtain ⟨p1, h1, h2⟩ := hs
    exact ⟨p1, p, h1, h2, hg⟩
theorem arr_cell {w : World} {g i : Nat} {x y z : Int} (hi : i < 3) (h : w.heap[g]? = some (arrO x y z)) : w.cell? ⟨g, i, none⟩ = some (.int .u64 (if i = 0 then x else if i = 1 then y else z)) := by
  have : i = 0 ∨ i = 1 ∨ i = 2 := by omega
  rcases this with rfl | rfl | rfl
  · exact blk_cell h 0
  · exact blk_cell h 1
  · exact blk_cell h 2
theorem arr_set {w : World} {g i : Nat} {x y z n : Int} (hi : i < 3) (h : w.heap[g]? = some (arrO x y z)) : (w.setCell ⟨g, i, none⟩ (.int .u64 n)).heap[g]? = some (arrO (if i = 0 then n else x) (if i = 1 then n else y) (if i = 2 then n else z)) := by
  have : i = 0 ∨ i = 1 ∨ i = 2 := by omega
  rcases this with rfl | rfl | rfl <;> simp [World.setCell, Array.getElem?_modify, h]
set_option maxRecDepth 100000 in
set_option maxHeartbeats 4000000 in
theorem ref_main {A0 : Option Addr} {c0 : Nat} {l0 : List Int} {a1 : Int} {R : Except Int (Int × Int × Int × List Int × Int)} {w : World} (hr0 : Kd.C (Kd.int .u8) w A0 l0.length l0) (hc0 : l0.length ≤ c0) (hb : Bytes255 l0) (hl : l0.length < 140737488355328) (h1 : 0 ≤ a1) (h2 : a1 ≤ l0.length) (hR : decV l0 a1 = R) :
    Calls Try.prog 15 #[.slice A0 l0.length c0, .int .i64 a1] w (DecPost w (decOut R)) := by
  have e1 : decide (a1 < 0) = false := decide_eq_false (by omega)
  have e2 : decide ((l0.length : Int) < a1) = false := decide_eq_false (by omega)
  obtain ⟨W, hW, b0, hWb⟩ : ∃ W, w.alloc (refO 0 0 0 (.slice none 0 0)) = W ∧ W.heap[w.heap.size]? = some (refO 0 0 0 (.slice none 0 0)) ∧ Below w.heap.size w W := ⟨_, rfl, alloc_new _ _, below_alloc (Below.refl _ _) _⟩
  have HW := Aside0.mk hW
  have B0 := Aside0.mk b0
  have HWb := Aside0.mk hWb
  have HCC := Aside0.mk (And.intro hr0 (And.intro hc0 hb))
  obtain ⟨W1, hst, g0, m0⟩ := ref_store 0 0 0 none 0 0 b0
  have HE := Aside0.mk (And.intro hst (And.intro g0 (Mu.below_of hWb m0 (by intro i hi; omega))))
  have hbd := ref_build
  have HR := Aside0.mk hR
  clear hW b0 hWb hr0 hc0 hb hst g0 m0 hR
  go_enter Try.func15, Try.ntmps15
  have hwA : IntKind.i64.wrap ((l0.length : Int) - a1) = (l0.length : Int) - a1 := IntWalk.i64_in _ (by omega)
  by_cases q1 : 6 ≤ (l0.length : Int) - a1
  case neg =>
    have d1 : decide ((l0.length : Int) - a1 < 6) = true := decide_eq_true (by omega)
    have hr : R = .error 3 := HR.out.symm.trans (if_neg q1)
    subst hr
    clear q1 HR
    go_wp2_with (first | ((with_reducible refine gate_ (.store 31 (.tmp 4) (.tmp 31)) rfl ?_); (try rw [HW.out]); refine wpList_storeR rfl _ _ _ rfl (by rfl) (by rfl) HE.out.1 ?_))
    exact ref_fail rfl rfl rfl HE.out.2.1 HE.out.2.2
  have d1 : decide ((l0.length : Int) - a1 < 6) = false := decide_eq_false (by omega)
  have Q1 := Aside0.mk q1
  have hCW := Kd.C_below HCC.out.1 HWb.out
  obtain ⟨ad, ea, hx⟩ := Kd.at_int hCW a1 h1 (by omega)
  subst ea
  obtain ⟨ad2, ea2, hx2⟩ := Kd.at_int hCW (a1 + 1) (by omega) (by omega)
  obtain rfl := Option.some.inj ea2
  have hw1 : IntKind.i64.wrap (a1 + 1) = a1 + 1 := IntWalk.i64_in _ (by omega)
  have hlt1 : a1 < (l0.length : Int) := by omega
  have hlt2 : a1 + 1 < (l0.length : Int) := by omega
  have hge2 : 0 ≤ a1 + 1 := by omega
  clear hCW ea2
  have stop2 : ¬ (rd l0 a1 = 167 ∧ rd l0 (a1 + 1) = 92) → R = .error 2 := fun hn => HR.out.symm.trans ((if_pos q1).trans (if_neg hn))
  clear q1
  by_cases k1 : rd l0 a1 = 167
  case neg =>
    have d2 : (rd l0 a1 != 167) = true := bne_iff_ne.2 k1
    have hr := stop2 (fun h => k1 h.1)
    subst hr
    clear k1 HR stop2
    go_wp2_with (first | ((with_reducible refine gate_ (.store 31 (.tmp 4) (.tmp 46)) rfl ?_); (try rw [HW.out]); refine wpList_storeR rfl _ _ _ rfl (by rfl) (by rfl) HE.out.1 ?_) | (rw [HW.out]))
    exact ref_fail rfl rfl rfl HE.out.2.1 HE.out.2.2
  have d2 : (rd l0 a1 != 167) = false := bne_eq_false_iff_eq.2 k1
  by_cases k2 : rd l0 (a1 + 1) = 92
  case neg =>
    have d3 : (rd l0 (a1 + 1) != 92) = true := bne_iff_ne.2 k2
    have hr := stop2 (fun h => k2 h.2)
    subst hr
    clear k1 k2 HR stop2
    go_wp2_with (first | ((with_reducible refine gate_ (.store 31 (.tmp 4) (.tmp 46)) rfl ?_); (try rw [HW.out]); refine wpList_storeR rfl _ _ _ rfl (by rfl) (by rfl) HE.out.1 ?_) | (rw [HW.out]))
    exact ref_fail rfl rfl rfl HE.out.2.1 HE.out.2.2
  have d3 : (rd l0 (a1 + 1) != 92) = false := bne_eq_false_iff_eq.2 k2
  have KK := Aside0.mk (And.intro k1 k2)
  clear k1 k2 stop2
  by_cases q3 : a1 + 6 < (l0.length : Int)
  case neg =>
    have d4 : decide ((l0.length : Int) - a1 < 7) = true := decide_eq_true (by omega)
    have hr : R = .error 3 := HR.out.symm.trans ((if_pos Q1.out).trans ((if_pos KK.out).trans (if_neg q3)))
    subst hr
    clear q3 HR
    go_wp2_with (first | ((with_reducible refine gate_ (.store 31 (.tmp 4) (.tmp 53)) rfl ?_); (try rw [HW.out]); refine wpList_storeR rfl _ _ _ rfl (by rfl) (by rfl) HE.out.1 ?_) | (rw [HW.out]))
    exact ref_fail rfl rfl rfl HE.out.2.1 HE.out.2.2
  have d4 : decide ((l0.length : Int) - a1 < 7) = false := decide_eq_false (by omega)
  have Q3 := Aside0.mk q3
  have hw7 : IntKind.i64.wrap (a1 + 7) = a1 + 7 := IntWalk.i64_in _ (by omega)
  clear q3
  go_upto_region 10 with (first | (rw [HW.out]))
  obtain ⟨W2, hW2, b2, hWb2⟩ : ∃ W2, W.alloc (arrO 0 0 0) = W2 ∧ W2.heap[W.heap.size]? = some (arrO 0 0 0) ∧ Below W.heap.size W W2 := ⟨_, rfl, alloc_new _ _, below_alloc (Below.refl _ _) _⟩
  obtain ⟨pa, hpa⟩ : ∃ pa, W.heap.size = pa := ⟨_, rfl⟩
  have hlt : w.heap.size < pa := by have := heap_lt B0.out; omega
  have HLt := Aside0.mk hlt
  have HW2 := Aside0.mk hW2
  have HF2 := Aside0.mk (show W2.heap[pa]? = some (arrO 0 0 0) ∧ W2.heap[w.heap.size]? = some (refO 0 0 0 (.slice none 0 0)) ∧ Below w.heap.size w W2 from ⟨by rw [← hpa]; exact b2, (Mu.of_below hWb2 (fun _ => False)).heap B0.out (fun h => h), below_step HWb.out hWb2⟩)
  have HPA := Aside0.mk hpa
  clear hW2 b2 hWb2 hpa hlt HW hx hx2 d2 d3 d1 d4 hwA hlt1 hlt2 hge2 hw1 hw7 e1 e2
  go_wp2
  rw [HW2.out, HPA.out]
  clear HW2 HPA HE HWb B0
  go_loopw [7, 9] (fun v7 v9 wr => ∃ (i : Nat) (p x y z : Int), i ≤ 3 ∧ v9 = .int .i64 i ∧ v7 = .int .i64 p ∧ Aside0 (Stage l0 a1 i p x y z) ∧ Aside0 (wr.heap[pa]? = some (arrO x y z) ∧ wr.heap[w.heap.size]? = some (refO 0 0 0 (.slice none 0 0)) ∧ Below w.heap.size w wr)) (fun _ v9 _ => 3 - (intOf v9).toNat)
  case atStart => exact ⟨0, a1 + 7, 0, 0, 0, by omega, rfl, rfl, ⟨rfl⟩, HF2⟩
  case round =>
    obtain ⟨i, p, x, y, z, hi, rfl, rfl, HS, HF⟩ := hrel
    clear HF2
    by_cases hlt : i < 3
    case pos =>
      rcases hg : getV l0 p with ⟨n, q, e⟩
      have HG := Aside0.mk (tikref2_Get.calls 30 (some ad) c0 l0 p n q e wr (Kd.C_below HCC.out.1 HF.out.2.2) HCC.out.2.1 ((refGet_any l0 (by omega) HCC.out.2.2 p 30 (Nat.le_refl _)).trans (congrArg some hg)))
      have Hg := Aside0.mk hg
      clear hg
      have hwi : IntKind.i64.wrap ((i : Int) + 1) = (i : Int) + 1 := IntWalk.i64_in _ (by omega)
      have hdi : decide ((i : Int) < 3) = true := decide_eq_true (by omega)
      have hi0 : (0 : Int) ≤ (i : Int) := by omega
      have hi3 : (i : Int) < 3 := by omega
      have ac := arr_cell hlt (show (wr).heap[pa]? = _ from HF.out.1)
      have af : ∀ n, (wr.drewN n).frozen? ⟨pa, i, none⟩ = false := fun n => blk_frozen HF.out.1 i
      have ad_ : ∀ n, (wr.drewN n).cell? ⟨pa, i, none⟩ = some (.int .u64 (if i = 0 then x else if i = 1 then y else z)) := fun n => ac
      have Hlt := Aside0.mk hlt
      clear hlt ac
      by_cases he : e = 0
      case neg =>
        have hr := stage_fail Q1.out KK.out Q3.out HR.out Hlt.out HS.out Hg.out he
        have de : (e != 0) = true := bne_iff_ne.2 he
        subst hr
        clear he HR
        go_wp2_with fail
        refine HG.out.mono ?_
        rintro en w1 ⟨rfl, ⟨nd, rfl⟩⟩
        obtain ⟨W3, hst, g0, m0⟩ := ref_store 0 0 0 none 0 0 (show (wr.drewN nd).heap[w.heap.size]? = _ from HF.out.2.1)
        have HE := Aside0.mk (And.intro hst (And.intro g0 (Mu.below_of (pw_below_drewN HF.out.2.2 nd) m0 (by intro i hi; omega))))
        clear hst g0 m0
        go_wp2_with (first | ((with_reducible refine gate_ (.store 31 (.tmp 4) (.tmp 69)) rfl ?_); refine wpList_storeR rfl _ _ _ rfl (by rfl) (by rfl) HE.out.1 ?_))
        exact ref_fail rfl rfl rfl HE.out.2.1 HE.out.2.2
      subst he
      have HN := Aside0.mk (stage_next Hlt.out HS.out Hg.out)
      go_wp2_with fail
      refine HG.out.mono ?_
      rintro en w1 ⟨rfl, ⟨nd, rfl⟩⟩
      have HF4 := Aside0.mk (And.intro (arr_set (n := n) Hlt.out (show (wr.drewN nd).heap[pa]? = _ from HF.out.1)) (And.intro ((Below.heap_setCell (wr.drewN nd) ⟨pa, i, none⟩ (.int .u64 n) w.heap.size (Nat.ne_of_lt HLt.out)).trans (show (wr.drewN nd).heap[w.heap.size]? = _ from HF.out.2.1)) (below_set (j := i) (v := .int .u64 n) (pw_below_drewN HF.out.2.2 nd) (Nat.le_of_lt HLt.out))))
      clear HG HF HS Hg
      go_wp2_with fail
      exact ⟨⟨i + 1, q, _, _, _, by have := Hlt.out; omega, by simp, rfl, HN, HF4⟩, by have := Hlt.out; simp [intOf]; omega⟩
    case neg =>
      obtain rfl : i = 3 := by omega
      obtain ⟨p1, p2, s1, s2, s3⟩ := HS.out
      have hT := (decV_tail Q1.out KK.out Q3.out s1 s2 s3).symm.trans HR.out
      have g1 := getV_ok s1
      have g2 := getV_ok s2
      have g3 := getV_ok s3
      have HGV := Aside0.mk (show 0 ≤ z ∧ a1 + 7 ≤ p ∧ p ≤ (l0.length : Int) from ⟨g3.2.1, by omega, g3.2.2.2.2⟩)
      have HT := Aside0.mk hT
      have u2 := blk_cell HF.out.1 2
      have u0 := blk_cell HF.out.1 0
      have u1 := blk_cell HF.out.1 1
      have hwl : IntKind.i64.wrap ((l0.length : Int) - p) = (l0.length : Int) - p := IntWalk.i64_in _ (by omega)
      have hwu : IntKind.u64.wrap ((l0.length : Int) - p) = (l0.length : Int) - p := IntWalk.u64_in _ (by omega)
      clear s1 s2 s3 hT g1 g2 g3 HS HR hlt hi
      by_cases q7 : z ≤ 1048576
      case neg =>
        have d7 : decide (1048576 < z) = true := decide_eq_true (by omega)
        have hr : R = .error 2 := HT.out.symm.trans (if_neg q7)
        subst hr
        obtain ⟨W3, hst, g0, m0⟩ := ref_store 0 0 0 none 0 0 HF.out.2.1
        have HE := Aside0.mk (And.intro hst (And.intro g0 (Mu.below_of HF.out.2.2 m0 (by intro i hi; omega))))
        clear hst g0 m0 q7 HT
        go_wp2_with (first | ((with_reducible refine gate_ (.store 31 (.tmp 4) (.tmp 79)) rfl ?_); refine wpList_storeR rfl _ _ _ rfl (by rfl) (by rfl) HE.out.1 ?_))
        exact ref_fail rfl rfl rfl HE.out.2.1 HE.out.2.2
      have d7 : decide (1048576 < z) = false := decide_eq_false (by omega)
      have HT7 := Aside0.mk ((if_pos q7).symm.trans HT.out)
      have Q7 := Aside0.mk q7
      clear HT q7
      by_cases q8 : z ≤ (l0.length : Int) - p
      case neg =>
        have d8 : decide ((l0.length : Int) - p < z) = true := decide_eq_true (by omega)
        have hr : R = .error 3 := HT7.out.symm.trans (if_neg q8)
        subst hr
        obtain ⟨W3, hst, g0, m0⟩ := ref_store 0 0 0 none 0 0 HF.out.2.1
        have HE := Aside0.mk (And.intro hst (And.intro g0 (Mu.below_of HF.out.2.2 m0 (by intro i hi; omega))))
        clear hst g0 m0 q8 HT7
        go_wp2_with (first | ((with_reducible refine gate_ (.store 31 (.tmp 4) (.tmp 89)) rfl ?_); refine wpList_storeR rfl _ _ _ rfl (by rfl) (by rfl) HE.out.1 ?_))
        exact ref_fail rfl rfl rfl HE.out.2.1 HE.out.2.2
      have d8 : decide ((l0.length : Int) - p < z) = false := decide_eq_false (by omega)
      have HT8 := Aside0.mk ((if_pos q8).symm.trans HT7.out)
      have Q8 := Aside0.mk q8
      clear HT7 q8
      have GG := And.intro HGV.out (And.intro Q7.out Q8.out)
      have hwz : IntKind.i64.wrap z = z := IntWalk.i64_in _ (by omega)
      have hwe : IntKind.i64.wrap (p + z) = p + z := IntWalk.i64_in _ (by omega)
      have hw2 : IntKind.i64.wrap (a1 + 2) = a1 + 2 := IntWalk.i64_in _ (by omega)
      have hw6 : IntKind.i64.wrap (a1 + 6) = a1 + 6 := IntWalk.i64_in _ (by omega)
      obtain ⟨AS, hcutS, hCS, hlS⟩ := cutSeg (some ad) c0 l0 (a1 + 2) (a1 + 6) (by omega) (by omega) (by omega) HCC.out.2.1
      obtain ⟨AC, hcutC, hCC, hlC⟩ := cutSeg (some ad) c0 l0 (a1 + 6) (p + z) (by omega) (by omega) (by omega) HCC.out.2.1
      obtain ⟨AB, hcutB, hCB, hlB⟩ := cutSeg (some ad) c0 l0 p (p + z) (by omega) (by omega) (by omega) HCC.out.2.1
      have HCB := Aside0.mk hCB
      have HlB := Aside0.mk hlB
      have hlc : (segL l0 (a1 + 6) (p + z)).length ≤ l0.length := by unfold segL; rw [List.length_drop, List.length_take]; omega
      have fcrc := refCrc_any (10 * (segL l0 (a1 + 6) (p + z)).length + 1) _ (by omega) (seg_bytes HCC.out.2.2 (a1 + 6) (p + z)) (Nat.le_refl _)
      have e4 : segL l0 (a1 + 2) (a1 + 6) = [rd l0 (a1 + 2), rd l0 (a1 + 2 + 1), rd l0 (a1 + 2 + 1 + 1), rd l0 (a1 + 2 + 1 + 1 + 1)] := by
        have := seg4 (l := l0) (a := a1 + 2) (by omega) (by omega)
        rwa [show a1 + 2 + 4 = a1 + 6 by omega] at this
      have r0 := rd_255 HCC.out.2.2 (a1 + 2)
      have r1 := rd_255 HCC.out.2.2 (a1 + 2 + 1)
      have r2 := rd_255 HCC.out.2.2 (a1 + 2 + 1 + 1)
      have r3 := rd_255 HCC.out.2.2 (a1 + 2 + 1 + 1 + 1)
      have fbig : tikref2_Big.f 5 (segL l0 (a1 + 2) (a1 + 6)) = some (((rd l0 (a1 + 2) * 256 + rd l0 (a1 + 2 + 1)) * 256 + rd l0 (a1 + 2 + 1 + 1)) * 256 + rd l0 (a1 + 2 + 1 + 1 + 1)) := by
        rw [e4]; exact big_any 5 (Nat.le_refl _) _ _ _ _ r0 r1 r2 r3
      have hsum := big_sum _ _ _ _ (crcV (segL l0 (a1 + 6) (p + z))) r0 r1 r2 r3 (crcV_bound _)
      rw [← e4] at hsum
      generalize (((rd l0 (a1 + 2) * 256 + rd l0 (a1 + 2 + 1)) * 256 + rd l0 (a1 + 2 + 1 + 1)) * 256 + rd l0 (a1 + 2 + 1 + 1 + 1)) = big at fbig hsum
      have HSum := Aside0.mk hsum
      have hqc := fun (m : Nat) => Calls.quiet_of (n := m) (w := wr) ((tikref2_Crc.calls _ AC _ _ _ (wr.drewN m) (hCC _ (Kd.C_drewN (Kd.C_below HCC.out.1 HF.out.2.2) m)) hlC fcrc).mono fun _ _ z => by obtain ⟨z1, m1, z2⟩ := z; exact ⟨z1, m1, z2 ▸ rfl⟩)
      have hqb := fun (m : Nat) => Calls.quiet_of (n := m) (w := wr) ((tikref2_Big.calls _ AS _ _ _ (wr.drewN m) (hCS _ (Kd.C_drewN (Kd.C_below HCC.out.1 HF.out.2.2) m)) hlS fbig).mono fun _ _ z => by obtain ⟨z1, m1, z2⟩ := z; exact ⟨z1, m1, z2 ▸ rfl⟩)
      have HSL := Aside0.mk (show (segL l0 p (p + z)).length < 140737488355328 by unfold segL; rw [List.length_drop, List.length_take]; omega)
      clear GG hCS hCC hCB hlS hlC hlB hlc fcrc e4 r0 r1 r2 r3 fbig hsum
      generalize hcr : crcV (segL l0 (a1 + 6) (p + z)) = crc at *
      by_cases q9 : crc = big % 4294967296
      case neg =>
        have d9 : (crc != big % 4294967296) = true := bne_iff_ne.2 q9
        have hr : R = .error 9 := HT8.out.symm.trans (if_neg (fun h => q9 (HSum.out.2 h)))
        subst hr
        clear q9 HT8 HSum
        go_upto_region 23 with fail
        go_quiet (first | (go_at_call 22; exact hqc _) | (go_at_call 23; exact hqb _))
        obtain ⟨W3, hst, g0, m0⟩ := ref_store 0 0 0 none 0 0 (show (wr.drewN nq).heap[w.heap.size]? = _ from HF.out.2.1)
        have HE := Aside0.mk (And.intro hst (And.intro g0 (Mu.below_of (pw_below_drewN HF.out.2.2 nq) m0 (by intro i hi; omega))))
        clear hst g0 m0
        go_wp2_with (first | ((with_reducible refine gate_ (.store 31 (.tmp 4) (.tmp 110)) rfl ?_); refine wpList_storeR rfl _ _ _ rfl (by rfl) (by rfl) HE.out.1 ?_))
        exact ref_fail rfl rfl rfl HE.out.2.1 HE.out.2.2
      have d9 : (crc != big % 4294967296) = false := bne_eq_false_iff_eq.2 q9
      have HT9 := Aside0.mk ((if_pos (HSum.out.1 q9)).symm.trans HT8.out)
      clear q9 HT8 HSum
      go_upto_region 23 with fail
      go_quiet (first | (go_at_call 22; exact hqc _) | (go_at_call 23; exact hqb _))
      have HF5 := Aside0.mk (show (wr.drewN nq).heap[pa]? = _ ∧ (wr.drewN nq).heap[w.heap.size]? = _ ∧ Below w.heap.size w (wr.drewN nq) from ⟨HF.out.1, HF.out.2.1, pw_below_drewN HF.out.2.2 nq⟩)
      clear HF hqc hqb hcutS hcutC u0 u1 u2 hcr
      generalize wr.drewN nq = W5 at *
      have hC5 := Kd.C_below HCC.out.1 HF5.out.2.2
      obtain ⟨ad6, ea6, hx6⟩ := Kd.at_int hC5 (a1 + 6) (by omega) Q3.out
      obtain rfl := Option.some.inj ea6
      have hge6 : 0 ≤ a1 + 6 := by omega
      have hlt6 : a1 + 6 < (l0.length : Int) := Q3.out
      have hrd := rd_255 HCC.out.2.2 (a1 + 6)
      have hwb : IntKind.i64.wrap (rd l0 (a1 + 6)) = rd l0 (a1 + 6) := IntWalk.i64_in _ (by omega)
      obtain ⟨K1, hK1⟩ : ∃ k, rd l0 (a1 + 6) = k := ⟨_, rfl⟩
      rw [hK1] at hx6 hwb HT9
      have HC5 := Aside0.mk hC5
      have HS5 := Aside0.mk (show W5.cell? (ad.add (a1 + 6).toNat) = some (.int .u8 K1) ∧ W5.cell? ⟨pa, 0, none⟩ = some (.int .u64 x) ∧ W5.cell? ⟨pa, 1, none⟩ = some (.int .u64 y) from ⟨hx6, blk_cell HF5.out.1 0, blk_cell HF5.out.1 1⟩)
      clear hC5 ea6 hx6 hrd
      go_upto_region 25 with fail
      refine start_ (n := 18) (S := fun W => W.cell? (ad.add (a1 + 6).toNat) = some (.int .u8 K1) ∧ W.cell? ⟨pa, 0, none⟩ = some (.int .u64 x) ∧ W.cell? ⟨pa, 1, none⟩ = some (.int .u64 y)) (ds := [17]) #[false, false, false, false, false, false, false, false, false, false, false, false, false, false, false, false, false, false] (by kernel_rfl) rfl rfl HS5.out (fun hS => ?_)
      refine pure_ (i := 0) (N := some 111) (v := ?_) (a' := ?_) #[true, false, false, false, false, false, false, false, false, false, false, false, false, false, false, false, false, false] rfl rfl (by kernel_rfl) (fun _ _ _ h => h) (Or.inl ⟨by rfl, ?_⟩) ?_ ?_
      rotate_left
      · intro w'
        go_simp
        with_reducible rfl
      rotate_left
      · simp only [Act.put, List.setIfInBounds_toArray, List.set_cons_zero, List.set_cons_succ, i64_w, i32_w]
        rfl
      refine pure_ (i := 1) (N := some 112) (v := ?_) (a' := ?_) #[true, true, false, false, false, false, false, false, false, false, false, false, false, false, false, false, false, false] rfl rfl (by kernel_rfl) (fun _ _ _ h => h) (Or.inl ⟨by rfl, ?_⟩) ?_ ?_
      rotate_left
      · intro w'
        go_simp
        with_reducible rfl
      rotate_left
      · simp only [Act.put, List.setIfInBounds_toArray, List.set_cons_zero, List.set_cons_succ, i64_w, i32_w]
        rfl
      refine pure_ (i := 2) (N := some 113) (v := ?_) (a' := ?_) #[true, true, true, false, false, false, false, false, false, false, false, false, false, false, false, false, false, false] rfl rfl (by kernel_rfl) (fun _ _ _ h => h) (Or.inl ⟨by rfl, ?_⟩) ?_ ?_
      rotate_left
      · intro w'
        go_simp
        with_reducible rfl
      rotate_left
      · simp only [Act.put, List.setIfInBounds_toArray, List.set_cons_zero, List.set_cons_succ, i64_w, i32_w]
        rfl
      refine pure_ (i := 3) (N := some 114) (v := ?_) (a' := ?_) #[true, true, true, true, false, false, false, false, false, false, false, false, false, false, false, false, false, false] rfl rfl (by kernel_rfl) (fun _ _ _ h => h) (Or.inl ⟨by rfl, ?_⟩) ?_ ?_
      rotate_left
      · intro w'
        go_simp
        with_reducible rfl
      rotate_left
      · simp only [Act.put, List.setIfInBounds_toArray, List.set_cons_zero, List.set_cons_succ, i64_w, i32_w]
        rfl
      refine take_ (i := 4) (N := some 115) (v := ?_) (a' := ?_) #[true, true, true, true, true, false, false, false, false, false, false, false, false, false, false, false, false, false] rfl rfl (by kernel_rfl) (fun _ _ _ h => h) (Or.inl ⟨by rfl, ?_⟩) hS ?_ ?_
      rotate_left
      · rintro w' ⟨hs1, hs2, hs3⟩
        go_simp
        with_reducible rfl
      rotate_left
      · simp only [Act.put, List.setIfInBounds_toArray, List.set_cons_zero, List.set_cons_succ, i64_w, i32_w]
        rfl
      refine pure_ (i := 5) (N := some 116) (v := ?_) (a' := ?_) #[true, true, true, true, true, true, false, false, false, false, false, false, false, false, false, false, false, false] rfl rfl (by kernel_rfl) (fun _ _ _ h => h) (Or.inl ⟨by rfl, ?_⟩) ?_ ?_
      rotate_left
      · intro w'
        go_simp
        with_reducible rfl
      rotate_left
      · simp only [Act.put, List.setIfInBounds_toArray, List.set_cons_zero, List.set_cons_succ, i64_w, i32_w]
        rfl
      refine pure_ (i := 6) (N := some 117) (v := ?_) (a' := ?_) #[true, true, true, true, true, true, true, false, false, false, false, false, false, false, false, false, false, false] rfl rfl (by kernel_rfl) (fun _ _ _ h => h) (Or.inl ⟨by rfl, ?_⟩) ?_ ?_
      rotate_left
      · intro w'
        go_simp
        with_reducible rfl
      rotate_left
      · simp only [Act.put, List.setIfInBounds_toArray, List.set_cons_zero, List.set_cons_succ, i64_w, i32_w]
        rfl
      refine take_ (i := 7) (N := some 118) (v := ?_) (a' := ?_) #[true, true, true, true, true, true, true, true, false, false, false, false, false, false, false, false, false, false] rfl rfl (by kernel_rfl) (fun _ _ _ h => h) (Or.inl ⟨by rfl, ?_⟩) hS ?_ ?_
      rotate_left
      · rintro w' ⟨hs1, hs2, hs3⟩
        go_simp
        with_reducible rfl
      rotate_left
      · simp only [Act.put, List.setIfInBounds_toArray, List.set_cons_zero, List.set_cons_succ, i64_w, i32_w]
        rfl
      refine pure_ (i := 8) (N := some 119) (v := ?_) (a' := ?_) #[true, true, true, true, true, true, true, true, true, false, false, false, false, false, false, false, false, false] rfl rfl (by kernel_rfl) (fun _ _ _ h => h) (Or.inl ⟨by rfl, ?_⟩) ?_ ?_
      rotate_left
      · intro w'
        go_simp
        with_reducible rfl
      rotate_left
      · simp only [Act.put, List.setIfInBounds_toArray, List.set_cons_zero, List.set_cons_succ, i64_w, i32_w]
        rfl
      refine take_ (i := 9) (N := some 120) (v := ?_) (a' := ?_) #[true, true, true, true, true, true, true, true, true, true, false, false, false, false, false, false, false, false] rfl rfl (by kernel_rfl) (fun _ _ _ h => h) (Or.inl ⟨by rfl, ?_⟩) hS ?_ ?_
      rotate_left
      · rintro w' ⟨hs1, hs2, hs3⟩
        go_simp
        with_reducible rfl
      rotate_left
      · simp only [Act.put, List.setIfInBounds_toArray, List.set_cons_zero, List.set_cons_succ, i64_w, i32_w]
        rfl
      refine pure_ (i := 10) (N := some 121) (v := ?_) (a' := ?_) #[true, true, true, true, true, true, true, true, true, true, true, false, false, false, false, false, false, false] rfl rfl (by kernel_rfl) (fun _ _ _ h => h) (Or.inl ⟨by rfl, ?_⟩) ?_ ?_
      rotate_left
      · intro w'
        go_simp
        with_reducible rfl
      rotate_left
      · simp only [Act.put, List.setIfInBounds_toArray, List.set_cons_zero, List.set_cons_succ, i64_w, i32_w]
        rfl
      refine pure_ (i := 11) (N := some 122) (v := ?_) (a' := ?_) #[true, true, true, true, true, true, true, true, true, true, true, true, false, false, false, false, false, false] rfl rfl (by kernel_rfl) (fun _ _ _ h => h) (Or.inl ⟨by rfl, ?_⟩) ?_ ?_
      rotate_left
      · intro w'
        go_simp
        with_reducible rfl
      rotate_left
      · simp only [Act.put, List.setIfInBounds_toArray, List.set_cons_zero, List.set_cons_succ, i64_w, i32_w]
        rfl
      refine pure_ (i := 12) (N := some 123) (v := ?_) (a' := ?_) #[true, true, true, true, true, true, true, true, true, true, true, true, true, false, false, false, false, false] rfl rfl (by kernel_rfl) (fun _ _ _ h => h) (Or.inl ⟨by rfl, ?_⟩) ?_ ?_
      rotate_left
      · intro w'
        go_simp
        with_reducible rfl
      rotate_left
      · simp only [Act.put, List.setIfInBounds_toArray, List.set_cons_zero, List.set_cons_succ, i64_w, i32_w]
        rfl
      refine pure_ (i := 13) (N := some 124) (v := ?_) (a' := ?_) #[true, true, true, true, true, true, true, true, true, true, true, true, true, true, false, false, false, false] rfl rfl (by kernel_rfl) (fun _ _ _ h => h) (Or.inl ⟨by rfl, ?_⟩) ?_ ?_
      rotate_left
      · intro w'
        go_simp
        with_reducible rfl
      rotate_left
      · simp only [Act.put, List.setIfInBounds_toArray, List.set_cons_zero, List.set_cons_succ, i64_w, i32_w]
        rfl
      refine join_ 1 #[true, true, true, true, true, true, true, true, true, true, true, true, true, true, true, true, true, false] (fun (s : Option Addr × Nat × Nat) => [(125, .slice s.1 (segL l0 p (p + z)).length s.2.1), (126, .agg #[.int .i64 K1, .int .u64 x, .int .u64 y, .slice s.1 (segL l0 p (p + z)).length s.2.1]), (14, .pointer (some ⟨s.2.2, 0, none⟩))]) (fun s w' => Kd.R (Kd.int .u8) 5 w' W5.heap.size (fun _ => True) (.slice s.1 (segL l0 p (p + z)).length s.2.1) (segL l0 p (p + z)) ∧ w'.heap[s.2.2]? = some (refO 0 0 0 (.slice none 0 0)) ∧ w'.heap[w.heap.size]? = some (refO 0 0 0 (.slice none 0 0)) ∧ w.heap.size < s.2.2 ∧ Below w.heap.size w w') ?_ (fun hCont => ?_)
      rotate_left
      · refine two_ (i := 14) (j := 16) (Ni := some 125) (Nj := some 14) #[true, true, true, true, true, true, true, true, true, true, true, true, true, true, true, false, false, false] #[true, true, true, true, true, true, true, true, true, true, true, true, true, true, false, false, true, false] rfl rfl rfl rfl (by kernel_rfl) (by decide) (by decide) (fun K hK => ?_) (fun K hK => ?_)
        · refine goes_ Try.func21 (by kernel_rfl) rfl #[.slice AB (segL l0 p (p + z)).length (c0 - p.toNat)] (by rfl) rfl rfl (by (try simp only [List.map_toArray, List.map_cons, List.map_nil]); first | done | rfl) ?_
          refine (tikref_CopyBytes.calls AB _ (segL l0 p (p + z)) (segL l0 p (p + z)) _ (Kd.C_drew (HCB.out _ HC5.out)) HlB.out (copy_any _ HSL.out)).mono ?_
          rintro e w6 ⟨v6, rfl, ho6, hb6⟩
          obtain ⟨A6, c6, rfl⟩ := Kd.R_slice ho6
          refine ⟨_, rfl, ?_⟩
          refine hK.out _ _ ⟨cell_below_ hb6 hS.1, cell_below_ hb6 hS.2.1, cell_below_ hb6 hS.2.2⟩ (fun hS => ?_)
          refine norm_ (a' := ?_) ?_ ?_
          rotate_left
          · show Act.put _ (some 125) _ = _
            simp only [Act.put, List.setIfInBounds_toArray, List.set_cons_zero, List.set_cons_succ, i64_w, i32_w]
            rfl
          have hbl : ∀ w : World, (Instr.build 31 #[(0, .int .i64 K1), (1, .int .u64 x), (2, .int .u64 y), (3, .slice A6 (segL l0 p (p + z)).length c6)]).run Try.prog w = .ok (.agg #[.int .i64 K1, .int .u64 x, .int .u64 y, .slice A6 (segL l0 p (p + z)).length c6]) w := fun w => run_build (P := Try.prog) w 31 _ _ (by kernel_rfl)
          refine pure_ (i := 15) (N := some 126) (v := ?_) (a' := ?_) #[true, true, true, true, true, true, true, true, true, true, true, true, true, true, true, true, false, false] rfl rfl (by kernel_rfl) (fun _ _ _ h => h) (Or.inl ⟨by rfl, ?_⟩) ?_ ?_
          rotate_left
          · intro w'
            go_simp
            with_reducible rfl
          rotate_left
          · simp only [Act.put, List.setIfInBounds_toArray, List.set_cons_zero, List.set_cons_succ, i64_w, i32_w]
            rfl
          clear hbl
          refine one_ (i := 16) (N := some 14) #[true, true, true, true, true, true, true, true, true, true, true, true, true, true, true, true, true, false] rfl rfl (by kernel_rfl) (by decide) (fun K hK => ?_)
          refine box_step (by rfl) (N := 14) rfl (cs := #[.int .i64 0, .int .u64 0, .int .u64 0, .slice none 0 0]) (t := 31) (by first | (go_simp; done) | (go_simp; rfl)) ?_
          rintro g rfl w7 hg hb7
          refine hK.out _ _ ⟨cell_below_ hb7 hS.1, cell_below_ hb7 hS.2.1, cell_below_ hb7 hS.2.2⟩ (fun hS => ?_)
          refine norm_ (a' := ?_) ?_ ?_
          rotate_left
          · show Act.put _ (some 14) _ = _
            simp only [Act.put, List.setIfInBounds_toArray, List.set_cons_zero, List.set_cons_succ, i64_w, i32_w]
            rfl
          have q6 := (Mu.of_below hb6 (fun _ => False)).heap (show W5.drew.heap[w.heap.size]? = _ from HF5.out.2.1) (fun h => h)
          have q7 := (Mu.of_below hb7 (fun _ => False)).heap q6 (fun h => h)
          exact norm_ (by simp only [putAll, Act.put, List.setIfInBounds_toArray, List.set_cons_zero, List.set_cons_succ]) (hCont (A6, c6, w6.heap.size) _ ⟨Kd.R_below ho6 hb7, hg, q7, Nat.lt_of_lt_of_le (heap_lt HF5.out.2.1) hb6.size, below_step (below_step (below_drew1 HF5.out.2.2) hb6) hb7⟩)
        · refine box_step (by rfl) (N := 14) rfl (cs := #[.int .i64 0, .int .u64 0, .int .u64 0, .slice none 0 0]) (t := 31) (by first | (go_simp; done) | (go_simp; rfl)) ?_
          rintro g rfl w6 hg hb6
          refine hK.out _ _ ⟨cell_below_ hb6 hS.1, cell_below_ hb6 hS.2.1, cell_below_ hb6 hS.2.2⟩ (fun hS => ?_)
          refine norm_ (a' := ?_) ?_ ?_
          rotate_left
          · show Act.put _ (some 14) _ = _
            simp only [Act.put, List.setIfInBounds_toArray, List.set_cons_zero, List.set_cons_succ, i64_w, i32_w]
            rfl
          refine one_ (i := 14) (N := some 125) #[true, true, true, true, true, true, true, true, true, true, true, true, true, true, true, false, true, false] rfl rfl (by kernel_rfl) (by decide) (fun K hK => ?_)
          refine goes_ Try.func21 (by kernel_rfl) rfl #[.slice AB (segL l0 p (p + z)).length (c0 - p.toNat)] (by rfl) rfl rfl (by (try simp only [List.map_toArray, List.map_cons, List.map_nil]); first | done | rfl) ?_
          refine (tikref_CopyBytes.calls AB _ (segL l0 p (p + z)) (segL l0 p (p + z)) _ (Kd.C_below (Kd.C_drew (HCB.out _ HC5.out)) hb6) HlB.out (copy_any _ HSL.out)).mono ?_
          rintro e w7 ⟨v6, rfl, ho6, hb7⟩
          obtain ⟨A6, c6, rfl⟩ := Kd.R_slice ho6
          refine ⟨_, rfl, ?_⟩
          refine hK.out _ _ ⟨cell_below_ hb7 hS.1, cell_below_ hb7 hS.2.1, cell_below_ hb7 hS.2.2⟩ (fun hS => ?_)
          refine norm_ (a' := ?_) ?_ ?_
          rotate_left
          · show Act.put _ (some 125) _ = _
            simp only [Act.put, List.setIfInBounds_toArray, List.set_cons_zero, List.set_cons_succ, i64_w, i32_w]
            rfl
          have hbl : ∀ w : World, (Instr.build 31 #[(0, .int .i64 K1), (1, .int .u64 x), (2, .int .u64 y), (3, .slice A6 (segL l0 p (p + z)).length c6)]).run Try.prog w = .ok (.agg #[.int .i64 K1, .int .u64 x, .int .u64 y, .slice A6 (segL l0 p (p + z)).length c6]) w := fun w => run_build (P := Try.prog) w 31 _ _ (by kernel_rfl)
          refine pure_ (i := 15) (N := some 126) (v := ?_) (a' := ?_) #[true, true, true, true, true, true, true, true, true, true, true, true, true, true, true, true, true, false] rfl rfl (by kernel_rfl) (fun _ _ _ h => h) (Or.inl ⟨by rfl, ?_⟩) ?_ ?_
          rotate_left
          · intro w'
            go_simp
            with_reducible rfl
          rotate_left
          · simp only [Act.put, List.setIfInBounds_toArray, List.set_cons_zero, List.set_cons_succ, i64_w, i32_w]
            rfl
          clear hbl
          have q6 := (Mu.of_below hb6 (fun _ => False)).heap (show W5.drew.heap[w.heap.size]? = _ from HF5.out.2.1) (fun h => h)
          have q7 := (Mu.of_below hb7 (fun _ => False)).heap q6 (fun h => h)
          have q8 := (Mu.of_below hb7 (fun _ => False)).heap hg (fun h => h)
          exact norm_ (by simp only [putAll, Act.put, List.setIfInBounds_toArray, List.set_cons_zero, List.set_cons_succ]) (hCont (A6, c6, W5.drew.heap.size) _ ⟨Kd.R_lower ho6 hb6.size, q8, q7, heap_lt HF5.out.2.1, below_step (below_step (below_drew1 HF5.out.2.2) hb6) hb7⟩)
      rintro ⟨A6, c6, g6⟩ w6 ⟨hR6, hg6, hp6, hlt6', hb6⟩
      dsimp only at hR6 hg6 hlt6'
      simp only [putAll, Act.put, List.setIfInBounds_toArray, List.set_cons_zero, List.set_cons_succ]
      obtain ⟨W7, hst, g0, m0⟩ := ref_store K1 x y A6 (segL l0 p (p + z)).length c6 hg6
      refine last_ (i := 17) (N := none) #[true, true, true, true, true, true, true, true, true, true, true, true, true, true, true, true, true, true] rfl rfl (by kernel_rfl) (by decide) (fun K hK => ?_)
      refine skip_ (by rfl) rfl (exec_store rfl (by rfl) (by rfl) hst) ?_
      refine hK.out _ _ ?_
      refine done_ (by kernel_rfl) ?_
      have HR7 := Aside0.mk (Kd.R_mono (Kd.R_move (Kd.R_bound (Kd.R_types hR6 hg6 (by intro q hq; simp [Kd.int, Kd.scalar] at hq; subst hq; decide))) (fun k hk => m0.block k hk.2.2.1 (fun e => hk.1.2 e))) (fun _ _ => trivial) : Kd.R (Kd.int .u8) 5 W7 W5.heap.size (fun _ => True) _ _)
      have HG7 := Aside0.mk (And.intro g0 (And.intro (m0.heap hp6 (Nat.ne_of_lt hlt6')) (Mu.below_of hb6 m0 (by intro i hi; omega))))
      have HLt6 := Aside0.mk hlt6'
      have HW5 := Aside0.mk HF5.out.2.2.size
      have H5s := Aside0.mk (heap_lt HF5.out.2.1)
      clear hst g0 m0 hR6 hg6 hp6 hb6 hS hlt6'
      have hsl : (((segL l0 p (p + z)).length : Nat) : Int) = z := by have := HGV.out; have := Q8.out; unfold segL; rw [List.length_drop, List.length_take]; omega
      have HMay := Aside0.mk (tikref13_MayRecord.calls K1 x y A6 c6 (segL l0 p (p + z)) _ W7 (Kd.R_reads' HR7.out).2.2 (Kd.R_reads' HR7.out).2.1 (rmay_f K1 x y (segL l0 p (p + z))))
      rw [hsl] at HMay
      clear hsl HF5 HC5 HS5 hcutB HCB HlB
      go_wp2_with (first | ((with_reducible refine gate_ (.load 31 (.tmp 14)) rfl ?_); refine wpList_loadR rfl _ _ rfl (by rfl) (ref_load HG7.out.1) ?_))
      refine HMay.out.mono ?_
      rintro e w8 ⟨rfl, hb8⟩
      have hm8 := Mu.of_below hb8 (fun _ => False)
      have HG8 := Aside0.mk (And.intro (hm8.heap HG7.out.1 (fun h => h)) (And.intro (hm8.heap HG7.out.2.1 (fun h => h)) (below_step HG7.out.2.2 hb8)))
      have HR8 := Aside0.mk (Kd.R_below HR7.out hb8)
      clear hm8 hb8 HMay HG7 HR7
      by_cases q10 : mayL K1 x y z
      case neg =>
        have d10 : decide (mayL K1 x y z) = false := decide_eq_false q10
        have hr : R = .error 2 := HT9.out.symm.trans (if_neg q10)
        subst hr
        obtain ⟨W9, hst, g0, m0⟩ := ref_store 0 0 0 none 0 0 HG8.out.2.1
        have HE := Aside0.mk (And.intro hst (And.intro g0 (Mu.below_of HG8.out.2.2 m0 (by intro i hi; omega))))
        clear hst g0 m0 q10 HT9
        go_wp2_with (first | ((with_reducible refine gate_ (.store 31 (.tmp 4) (.tmp 130)) rfl ?_); refine wpList_storeR rfl _ _ _ rfl (by rfl) (by rfl) HE.out.1 ?_))
        exact ref_fail rfl rfl rfl HE.out.2.1 HE.out.2.2
      have d10 : decide (mayL K1 x y z) = true := decide_eq_true q10
      have hr : R = .ok (K1, x, y, (segL l0 p (p + z)), p + z) := HT9.out.symm.trans (if_pos q10)
      subst hr
      obtain ⟨W9, hst, g0, m0⟩ := ref_store K1 x y A6 (segL l0 p (p + z)).length c6 HG8.out.2.1
      have HE := Aside0.mk (And.intro hst (And.intro g0 m0))
      clear hst g0 m0 q10 HT9
      go_wp2_with (first | ((with_reducible refine gate_ (.load 31 (.tmp 14)) rfl ?_); refine wpList_loadR rfl _ _ rfl (by rfl) (ref_load HG8.out.1) ?_) | ((with_reducible refine gate_ (.store 31 (.tmp 4) (.tmp 131)) rfl ?_); refine wpList_storeR rfl _ _ _ rfl (by rfl) (by rfl) HE.out.1 ?_))
      refine ⟨rfl, _, ref_results rfl rfl rfl HE.out.2.1, _, rfl, ?_, Mu.below_of HG8.out.2.2 HE.out.2.2 (by intro i hi; omega)⟩
      exact Kd.R_lower (Kd.R_mono (Kd.R_move (Kd.R_bound HR8.out) (fun k hk => HE.out.2.2.block k hk.2.2.1 (fun e => by have := hk.2.1; have := H5s.out; omega))) (fun _ _ => trivial)) HW5.out
end Go.Proofs.Ytdklanenmihpdaa.Hand
namespace Go.Proofs.Ytdklanenmihpdaa.Hand
open Go.RowKit Go.Proofs.YtdklanenmihpdaaW.PrintWords Go.Proofs.YtdklanenmihpdaaW.PrintLast Go.Proofs.Ytdklanenmihpdaa.PA
set_option maxRecDepth 100000 in
set_option maxHeartbeats 4000000 in
theorem ref_early {A0 : Option Addr} {c0 : Nat} {l0 : List Int} {a1 : Int} {w : World} (h : a1 < 0 ∨ (l0.length : Int) < a1) :
    Calls Try.prog 15 #[.slice A0 l0.length c0, .int .i64 a1] w (DecPost w (decOut (.error 1))) := by
  obtain ⟨W, hW, b0, hWb⟩ : ∃ W, w.alloc (refO 0 0 0 (.slice none 0 0)) = W ∧ W.heap[w.heap.size]? = some (refO 0 0 0 (.slice none 0 0)) ∧ Below w.heap.size w W := ⟨_, rfl, alloc_new _ _, below_alloc (Below.refl _ _) _⟩
  have HW := Aside0.mk hW
  obtain ⟨W1, hst, g0, m0⟩ := ref_store 0 0 0 none 0 0 b0
  have HE := Aside0.mk (And.intro hst (And.intro g0 (Mu.below_of hWb m0 (by intro i hi; omega))))
  have hbd := ref_build
  clear hW b0 hWb hst g0 m0
  by_cases h1 : a1 < 0
  · have e1 : decide (a1 < 0) = true := decide_eq_true h1
    go_enter Try.func15, Try.ntmps15
    go_wp2_with (first | ((with_reducible refine gate_ (.store 31 (.tmp 4) (.tmp 24)) rfl ?_); (try rw [HW.out]); refine wpList_storeR rfl _ _ _ rfl (by rfl) (by rfl) HE.out.1 ?_) | (rw [HW.out]))
    exact ref_fail rfl rfl rfl HE.out.2.1 HE.out.2.2
  · have e1 : decide (a1 < 0) = false := decide_eq_false h1
    have e2 : decide ((l0.length : Int) < a1) = true := decide_eq_true (h.resolve_left h1)
    go_enter Try.func15, Try.ntmps15
    go_wp2_with (first | ((with_reducible refine gate_ (.store 31 (.tmp 4) (.tmp 24)) rfl ?_); (try rw [HW.out]); refine wpList_storeR rfl _ _ _ rfl (by rfl) (by rfl) HE.out.1 ?_) | (rw [HW.out]))
    exact ref_fail rfl rfl rfl HE.out.2.1 HE.out.2.2
def tikref13_DecodeRecord.f (l0 : List Int) (a1 : Int) : Option (Int × Int × Int × List Int × Int × Int) :=
  if l0.all byteB = true ∧ l0.length < 140737488355328 then some (if a1 < 0 ∨ (l0.length : Int) < a1 then (0, 0, 0, [], 0, 1) else decOut (decV l0 a1)) else none
theorem tikref13_DecodeRecord.calls (A0 : Option Addr) (c0 : Nat) (l0 : List Int) (a1 : Int) (r1 r2 r3 : Int) (r4 : List Int) (r5 r6 : Int) (w : World) (hr0 : Kd.C (Kd.int .u8) w A0 l0.length l0) (hc0 : l0.length ≤ c0) (h : tikref13_DecodeRecord.f l0 a1 = some (r1, r2, r3, r4, r5, r6)) :
    Calls Try.prog 15 #[.slice A0 l0.length c0, .int .i64 a1] w fun e w' => ∃ v3_ : Value, e = .returned (.tuple #[.agg #[.int .i64 r1, .int .u64 r2, .int .u64 r3, v3_], .int .i64 r5, .int .i64 r6]) ∧ Kd.R (Kd.int .u8) 5 w' w.heap.size (fun _ => True) v3_ r4 ∧ Below w.heap.size w w' := by
  unfold tikref13_DecodeRecord.f at h
  split at h
  case isFalse => cases h
  rename_i hq
  have hv := Option.some.inj h
  by_cases he : a1 < 0 ∨ (l0.length : Int) < a1
  · rw [if_pos he] at hv
    have := ref_early (A0 := A0) (c0 := c0) (w := w) he
    rw [show decOut (.error 1) = (0, 0, 0, [], 0, 1) from rfl, hv] at this
    exact this
  · rw [if_neg he] at hv
    have hb : Bytes255 l0 := fun x hx => byteB_iff.1 (List.all_eq_true.1 hq.1 x hx)
    have := ref_main (R := decV l0 a1) hr0 hc0 hb hq.2 (by omega) (by omega) rfl
    rw [hv] at this
    exact this
end Go.Proofs.Ytdklanenmihpdaa.Hand
