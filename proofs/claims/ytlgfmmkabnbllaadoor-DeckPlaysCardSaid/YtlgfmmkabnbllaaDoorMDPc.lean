/- Texts of this claim, put together. -/
import Derived.Test.YtlgfmmkabnbllaaDoorMDPb
import Derived.Test.YtlgfmmkabnbllaaDoorProg
import Derived.Below
import Derived.Deep.Draws
import Derived.Deep.AppendLies
import Derived.Maps.AppendAt
import Derived.OwnWalk
import Derived.Laws.BytesArg
import Derived.Laws.MakeOwn
import Derived.Laws.OwnMore
import Derived.Deep.OwnRows
import Derived.Tactics
import Derived.Lib.ConvBytes
import Derived.Laws.Slices
import Derived.WalkKit
import Derived.KernelRfl
import Derived.RowKit3
import Derived.Deep.LoopGhost
import Derived.Deep.QuietTactic
import Derived.BigQuiet
import Derived.WideLaws
import Derived.Deep.DeepCutAuto
import Derived.Deep.CutBlock
import Derived.Deep.RegionHeld3
import Derived.Laws.Rows
import Derived.Lib.AppendStr
import Derived.ArgAppend
import Derived.Laws.IdiomCopy
import Derived.OrdersHeld
import Derived.Laws.BitsLemmas
import Derived.RowKit
import Derived.Test.YtlgfmmkabnbllaaDoorMDPWWords
import Derived.Test.YtlgfmmkabnbllaaDoorMDPWLast
import Derived.Test.YtlgfmmkabnbllaaDoorMDPWTab
import Derived.Test.YtlgfmmkabnbllaaDoorMDPWApart
import Derived.Test.YtlgfmmkabnbllaaDoorMDPWFoot
import Derived.Test.YtlgfmmkabnbllaaDoorMDPWShare
import Derived.Test.YtlgfmmkabnbllaaDoorMDPWN
import Derived.Test.YtlgfmmkabnbllaaDoorMDPWEqStruct
import Derived.Test.YtlgfmmkabnbllaaDoorMDPWRepsOne
import Derived.Test.YtlgfmmkabnbllaaDoorMDPWInv
import Derived.Test.YtlgfmmkabnbllaaDoorMDPWMore
import Derived.StillTailTactics
set_option linter.unusedVariables false
set_option linter.unusedSimpArgs false
namespace Go.Proofs.YtlgfmmkabnbllaaDoor.PC
open Go.RowKit Go.Proofs.YtlgfmmkabnbllaaDoorW.PrintWords Go.Proofs.YtlgfmmkabnbllaaDoorW.PrintLast Go.Proofs.YtlgfmmkabnbllaaDoorW.PrintMore
attribute [local go_sem] max2_int min2_int max_two min_two max_three min_three max_four min_four
open Go.Proofs.YtlgfmmkabnbllaaDoor.Hand
open Go.Proofs.YtlgfmmkabnbllaaDoor.PA
open Go.Proofs.YtlgfmmkabnbllaaDoor.PB
set_option linter.unusedVariables false
set_option linter.unusedSimpArgs false
def IsS138 (w0 W : World) (g : Nat) (f0 : Int) (f1 : Int) (f2 : Int) (f3 : Int) (f4 : Int) : Prop := W.heap[g]? = some (.cells #[.int .u64 f0, .int .u64 f1, .int .u64 f2, .int .u64 f3, .int .u64 f4] 138 (0, 0)) ∧ w0.heap.size ≤ g
theorem IsS138.grown {w0 W : World} {g : Nat} {f0 : Int} {f1 : Int} {f2 : Int} {f3 : Int} {f4 : Int} {W1 : World} {row : Option Nat} (h : IsS138 w0 W g f0 f1 f2 f3 f4) (hw : W.grownBy W1 row) (hne : some g ≠ row) : IsS138 w0 W1 g f0 f1 f2 f3 f4 := by
  obtain ⟨hb, hg⟩ := h
  exact ⟨blk_grown hb hw hne, hg⟩
theorem IsS138.below {w0 W : World} {g : Nat} {f0 : Int} {f1 : Int} {f2 : Int} {f3 : Int} {f4 : Int} {W1 : World} (h : IsS138 w0 W g f0 f1 f2 f3 f4) (hw : Below W.heap.size W W1) : IsS138 w0 W1 g f0 f1 f2 f3 f4 := h.grown (grown_of_below hw none) (by simp)
theorem IsS138.drewN {w0 W : World} {g : Nat} {f0 : Int} {f1 : Int} {f2 : Int} {f3 : Int} {f4 : Int} (h : IsS138 w0 W g f0 f1 f2 f3 f4) (m : Nat) : IsS138 w0 (W.drewN m) g f0 f1 f2 f3 f4 := h
theorem IsS138.drew {w0 W : World} {g : Nat} {f0 : Int} {f1 : Int} {f2 : Int} {f3 : Int} {f4 : Int} (h : IsS138 w0 W g f0 f1 f2 f3 f4) : IsS138 w0 W.drew g f0 f1 f2 f3 f4 := h
theorem IsS138.lt {w0 W : World} {g : Nat} {f0 : Int} {f1 : Int} {f2 : Int} {f3 : Int} {f4 : Int} (h : IsS138 w0 W g f0 f1 f2 f3 f4) : g < W.heap.size := by
  obtain ⟨hb, hg⟩ := h
  exact blk_lt hb
theorem IsS138.ge {w0 W : World} {g : Nat} {f0 : Int} {f1 : Int} {f2 : Int} {f3 : Int} {f4 : Int} (h : IsS138 w0 W g f0 f1 f2 f3 f4) : w0.heap.size ≤ g := by
  obtain ⟨hb, hg⟩ := h
  exact hg
theorem IsS138.far {w0 W : World} {g : Nat} {f0 : Int} {f1 : Int} {f2 : Int} {f3 : Int} {f4 : Int} {p : Addr} (h : IsS138 w0 W g f0 f1 f2 f3 f4) (hne : g ≠ p.block) (u : Value) : IsS138 w0 (W.setCell p u) g f0 f1 f2 f3 f4 := by
  obtain ⟨hb, hg⟩ := h
  exact ⟨blk_far hb hne u, hg⟩
theorem cellS138_0 {W : World} {g : Nat} {f0 : Int} {f1 : Int} {f2 : Int} {f3 : Int} {f4 : Int} (h : W.heap[g]? = some (.cells #[.int .u64 f0, .int .u64 f1, .int .u64 f2, .int .u64 f3, .int .u64 f4] 138 (0, 0))) : W.cell? ⟨g, 0, none⟩ = some (.int .u64 f0) := (blk_cell h 0).trans rfl
theorem IsS138.set_0 {w0 W : World} {g : Nat} {f0 : Int} {f1 : Int} {f2 : Int} {f3 : Int} {f4 : Int} (h : IsS138 w0 W g f0 f1 f2 f3 f4) (x : Int) : IsS138 w0 (W.setCell ⟨g, 0, none⟩ (.int .u64 x)) g x f1 f2 f3 f4 := by
  obtain ⟨hb, hg⟩ := h
  exact ⟨by simpa using blk_set hb 0 (.int .u64 x), hg⟩
theorem cellS138_1 {W : World} {g : Nat} {f0 : Int} {f1 : Int} {f2 : Int} {f3 : Int} {f4 : Int} (h : W.heap[g]? = some (.cells #[.int .u64 f0, .int .u64 f1, .int .u64 f2, .int .u64 f3, .int .u64 f4] 138 (0, 0))) : W.cell? ⟨g, 1, none⟩ = some (.int .u64 f1) := (blk_cell h 1).trans rfl
theorem IsS138.set_1 {w0 W : World} {g : Nat} {f0 : Int} {f1 : Int} {f2 : Int} {f3 : Int} {f4 : Int} (h : IsS138 w0 W g f0 f1 f2 f3 f4) (x : Int) : IsS138 w0 (W.setCell ⟨g, 1, none⟩ (.int .u64 x)) g f0 x f2 f3 f4 := by
  obtain ⟨hb, hg⟩ := h
  exact ⟨by simpa using blk_set hb 1 (.int .u64 x), hg⟩
theorem cellS138_2 {W : World} {g : Nat} {f0 : Int} {f1 : Int} {f2 : Int} {f3 : Int} {f4 : Int} (h : W.heap[g]? = some (.cells #[.int .u64 f0, .int .u64 f1, .int .u64 f2, .int .u64 f3, .int .u64 f4] 138 (0, 0))) : W.cell? ⟨g, 2, none⟩ = some (.int .u64 f2) := (blk_cell h 2).trans rfl
theorem IsS138.set_2 {w0 W : World} {g : Nat} {f0 : Int} {f1 : Int} {f2 : Int} {f3 : Int} {f4 : Int} (h : IsS138 w0 W g f0 f1 f2 f3 f4) (x : Int) : IsS138 w0 (W.setCell ⟨g, 2, none⟩ (.int .u64 x)) g f0 f1 x f3 f4 := by
  obtain ⟨hb, hg⟩ := h
  exact ⟨by simpa using blk_set hb 2 (.int .u64 x), hg⟩
theorem cellS138_3 {W : World} {g : Nat} {f0 : Int} {f1 : Int} {f2 : Int} {f3 : Int} {f4 : Int} (h : W.heap[g]? = some (.cells #[.int .u64 f0, .int .u64 f1, .int .u64 f2, .int .u64 f3, .int .u64 f4] 138 (0, 0))) : W.cell? ⟨g, 3, none⟩ = some (.int .u64 f3) := (blk_cell h 3).trans rfl
theorem IsS138.set_3 {w0 W : World} {g : Nat} {f0 : Int} {f1 : Int} {f2 : Int} {f3 : Int} {f4 : Int} (h : IsS138 w0 W g f0 f1 f2 f3 f4) (x : Int) : IsS138 w0 (W.setCell ⟨g, 3, none⟩ (.int .u64 x)) g f0 f1 f2 x f4 := by
  obtain ⟨hb, hg⟩ := h
  exact ⟨by simpa using blk_set hb 3 (.int .u64 x), hg⟩
theorem cellS138_4 {W : World} {g : Nat} {f0 : Int} {f1 : Int} {f2 : Int} {f3 : Int} {f4 : Int} (h : W.heap[g]? = some (.cells #[.int .u64 f0, .int .u64 f1, .int .u64 f2, .int .u64 f3, .int .u64 f4] 138 (0, 0))) : W.cell? ⟨g, 4, none⟩ = some (.int .u64 f4) := (blk_cell h 4).trans rfl
theorem IsS138.set_4 {w0 W : World} {g : Nat} {f0 : Int} {f1 : Int} {f2 : Int} {f3 : Int} {f4 : Int} (h : IsS138 w0 W g f0 f1 f2 f3 f4) (x : Int) : IsS138 w0 (W.setCell ⟨g, 4, none⟩ (.int .u64 x)) g f0 f1 f2 f3 x := by
  obtain ⟨hb, hg⟩ := h
  exact ⟨by simpa using blk_set hb 4 (.int .u64 x), hg⟩
def clock_Clock_at.f (s0_0 : Int) (s0_1 : Int) (s0_2 : Int) (s0_3 : Int) (s0_4 : Int) (a1 : Int) : Option (Int × Int × Int × Int × Int × Int × Int) := if a1 ≤ s0_0 then (some (s0_1, s0_2, s0_0, s0_1, s0_2, s0_3, s0_4)) else ((rate_Scale.f (IntKind.u64.wrap (a1 - s0_0)) s0_2 s0_3 s0_4).bind fun bt101 => (if bt101.2.2 = 0 then (if bt101.1 ≥ (IntKind.u64.wrap (4611686018427387904 - s0_1)) then (some (4611686018427387904, 0, s0_0, s0_1, s0_2, s0_3, s0_4)) else (some (IntKind.u64.wrap (s0_1 + bt101.1), bt101.2.1, s0_0, s0_1, s0_2, s0_3, s0_4))) else (some (4611686018427387904, 0, s0_0, s0_1, s0_2, s0_3, s0_4))))
def clock_Clock_at.T2 : Bool × List (List Nat × List Nat) := (true, [([], []), ([0], [0]), ([1], [1]), ([2], [2]), ([], []), ([4], [4]), ([5], [5]), ([6], [6]), ([3, 0, 1, 2, 3], [3]), ([7, 8, 0, 1, 2, 3, 4, 5, 6, 7, 8], [7])])
def clock_Clock_at.B2 : List Nat := [0, 1, 3, 7, 0, 16, 48, 112, 15, 511]
theorem clock_Clock_at.tab2 : rtab .any (opsOf Tryd.f92 2) = clock_Clock_at.T2 := by kernel_rfl
theorem clock_Clock_at.bits2 : waitsOk clock_Clock_at.T2.2 clock_Clock_at.B2 = true := by kernel_rfl
def clock_Clock_at.T3 : Bool × List (List Nat × List Nat) := (true, [([], []), ([], []), ([1], [1]), ([2], [2]), ([3], [3]), ([0, 4], [0, 4]), ([], []), ([6], [6]), ([7], [7]), ([8], [8]), ([], []), ([10], [10]), ([11], [11]), ([12], [12]), ([5, 9, 13], [5, 9, 13]), ([14], [14]), ([15], [15]), ([15], [15]), ([15], [15]), ([16, 14, 0, 1, 2, 3, 4, 5, 6, 7, 8, 9, 10, 11, 12, 13, 14, 15, 16], [16]), ([17, 19, 0, 1, 2, 3, 4, 5, 6, 7, 8, 9, 10, 11, 12, 13, 14, 15, 16, 17, 19], [17]), ([18, 20, 0, 1, 2, 3, 4, 5, 6, 7, 8, 9, 10, 11, 12, 13, 14, 15, 16, 17, 18, 19, 20], [18])])
def clock_Clock_at.B3 : List Nat := [0, 0, 2, 6, 14, 31, 0, 64, 192, 448, 0, 1024, 3072, 7168, 16383, 32767, 65535, 65535, 65535, 131071, 786431, 2097151]
theorem clock_Clock_at.tab3 : rtab .any (opsOf Tryd.f92 3) = clock_Clock_at.T3 := by kernel_rfl
theorem clock_Clock_at.bits3 : waitsOk clock_Clock_at.T3.2 clock_Clock_at.B3 = true := by kernel_rfl
set_option maxHeartbeats 8000000 in
set_option maxRecDepth 100000 in
theorem clock_Clock_at.calls (g : Nat) (s0_0 : Int) (s0_1 : Int) (s0_2 : Int) (s0_3 : Int) (s0_4 : Int) (a1 : Int) (r1 : Int) (r2 : Int) (r3 : Int) (r4 : Int) (r5 : Int) (r6 : Int) (r7 : Int) (w0 w : World) (hI : IsS138 w0 w g s0_0 s0_1 s0_2 s0_3 s0_4) (hB : Below w0.heap.size w0 w) (h : clock_Clock_at.f s0_0 s0_1 s0_2 s0_3 s0_4 a1 = some (r1, r2, r3, r4, r5, r6, r7)) :
    Calls Tryd.prog 92 #[.pointer (some ⟨g, 0, none⟩), .int .u64 a1] w fun e w' => e = .returned (.tuple #[.int .u64 r1, .int .u64 r2]) ∧ IsS138 w0 w' g r3 r4 r5 r6 r7 ∧ Below w0.heap.size w0 w' ∧ KeepBut w w' g none := by
  have hu30 := Tryd.underlying30
  have HI0 := Aside0.mk hI
  have HK := Aside0.mk (KeepBut.refl w g none)
  have HL := Aside0.mk hB.size
  clear hI
  have HW0 := Aside0.mk hB.size
  have HB := Aside0.mk hB
  clear hB
  have H : (if a1 ≤ s0_0 then (some (s0_1, s0_2, s0_0, s0_1, s0_2, s0_3, s0_4)) else ((rate_Scale.f (IntKind.u64.wrap (a1 - s0_0)) s0_2 s0_3 s0_4).bind fun bt101 => (if bt101.2.2 = 0 then (if bt101.1 ≥ (IntKind.u64.wrap (4611686018427387904 - s0_1)) then (some (4611686018427387904, 0, s0_0, s0_1, s0_2, s0_3, s0_4)) else (some (IntKind.u64.wrap (s0_1 + bt101.1), bt101.2.1, s0_0, s0_1, s0_2, s0_3, s0_4))) else (some (4611686018427387904, 0, s0_0, s0_1, s0_2, s0_3, s0_4))))) = some (r1, r2, r3, r4, r5, r6, r7) := h
  clear h
  by_cases c3 : a1 ≤ s0_0
  · rw [if_pos c3] at H
    have c3b0 : decide (a1 ≤ s0_0) = true := decide_eq_true c3
    clear c3
    simp only [Option.some.injEq, Prod.mk.injEq] at H
    obtain ⟨rfl, rfl, rfl, rfl, rfl, rfl, rfl⟩ := H
    obtain ⟨HGz4, hgz4⟩ := HI0.out
    have hcz4_0 := cellS138_0 HGz4
    have hcz4_1 := cellS138_1 HGz4
    have hcz4_2 := cellS138_2 HGz4
    have hcz4_3 := cellS138_3 HGz4
    have hcz4_4 := cellS138_4 HGz4
    have hfz4_0 := blk_frozen HGz4 0
    have hfz4_1 := blk_frozen HGz4 1
    have hfz4_2 := blk_frozen HGz4 2
    have hfz4_3 := blk_frozen HGz4 3
    have hfz4_4 := blk_frozen HGz4 4
    clear HGz4 hgz4
    go_enter Tryd.func92, Tryd.ntmps92
    try go_wp2
    have n0_ := Aside0.mk (IsS138.drew HI0.out)
    have n1_ := Aside0.mk (keep_drew HK.out)
    have n2_ := Aside0.mk (below_drew1 HB.out)
    clear HI0
    clear HK
    clear HB
    have HI0 := n0_
    have HK := n1_
    have HB := n2_
    clear n0_ n1_ n2_
    refine start_ (n := 10) (S := fun w' => w'.cell? ⟨g, 0, none⟩ = some (.int .u64 s0_0) ∧ w'.cell? ⟨g, 1, none⟩ = some (.int .u64 s0_1) ∧ w'.cell? ⟨g, 2, none⟩ = some (.int .u64 s0_2) ∧ w'.cell? ⟨g, 3, none⟩ = some (.int .u64 s0_3) ∧ w'.cell? ⟨g, 4, none⟩ = some (.int .u64 s0_4)) (ds := []) #[false, false, false, false, false, false, false, false, false, false] (by kernel_rfl) rfl rfl ⟨(blk_cell (Aside0.mk HI0.out.1).out 0).trans rfl, (blk_cell (Aside0.mk HI0.out.1).out 1).trans rfl, (blk_cell (Aside0.mk HI0.out.1).out 2).trans rfl, (blk_cell (Aside0.mk HI0.out.1).out 3).trans rfl, (blk_cell (Aside0.mk HI0.out.1).out 4).trans rfl⟩ (fun hHeld => ?_); refine with_tabW clock_Clock_at.tab2 clock_Clock_at.bits2 (fun HT_ HW_ => ?_)
    generalize w.drew = w5 at HI0 HK HB hHeld ⊢
    refine pure_ (i := 0) (N := some 15) (v := ?_) (a' := ?_) #[true, false, false, false, false, false, false, false, false, false] rfl rfl (any_of HT_.out (by kernel_rfl)) (fun _ _ _ h => h) (Or.inl ⟨by rfl, ?_⟩) ?_ ?_
    rotate_left
    · intro w'
      go_simp
      with_reducible rfl
    rotate_left
    · simp only [Act.put, List.setIfInBounds_toArray, List.set_cons_zero, List.set_cons_succ, i64_w, i32_w]
      rfl
    refine pure_ (i := 1) (N := some 16) (v := ?_) (a' := ?_) #[true, true, false, false, false, false, false, false, false, false] rfl rfl (any_of HT_.out (by kernel_rfl)) (fun _ _ _ h => h) (Or.inl ⟨by rfl, ?_⟩) ?_ ?_
    rotate_left
    · intro w'
      go_simp
      with_reducible rfl
    rotate_left
    · simp only [Act.put, List.setIfInBounds_toArray, List.set_cons_zero, List.set_cons_succ, i64_w, i32_w]
      rfl
    refine pure_ (i := 2) (N := some 17) (v := ?_) (a' := ?_) #[true, true, true, false, false, false, false, false, false, false] rfl rfl (any_of HT_.out (by kernel_rfl)) (fun _ _ _ h => h) (Or.inl ⟨by rfl, ?_⟩) ?_ ?_
    rotate_left
    · intro w'
      go_simp
      with_reducible rfl
    rotate_left
    · simp only [Act.put, List.setIfInBounds_toArray, List.set_cons_zero, List.set_cons_succ, i64_w, i32_w]
      rfl
    refine pure_ (i := 4) (N := some 19) (v := ?_) (a' := ?_) #[true, true, true, false, true, false, false, false, false, false] rfl rfl (any_of HT_.out (by kernel_rfl)) (fun _ _ _ h => h) (Or.inl ⟨by rfl, ?_⟩) ?_ ?_
    rotate_left
    · intro w'
      go_simp
      with_reducible rfl
    rotate_left
    · simp only [Act.put, List.setIfInBounds_toArray, List.set_cons_zero, List.set_cons_succ, i64_w, i32_w]
      rfl
    refine pure_ (i := 5) (N := some 20) (v := ?_) (a' := ?_) #[true, true, true, false, true, true, false, false, false, false] rfl rfl (any_of HT_.out (by kernel_rfl)) (fun _ _ _ h => h) (Or.inl ⟨by rfl, ?_⟩) ?_ ?_
    rotate_left
    · intro w'
      go_simp
      with_reducible rfl
    rotate_left
    · simp only [Act.put, List.setIfInBounds_toArray, List.set_cons_zero, List.set_cons_succ, i64_w, i32_w]
      rfl
    refine pure_ (i := 6) (N := some 21) (v := ?_) (a' := ?_) #[true, true, true, false, true, true, true, false, false, false] rfl rfl (any_of HT_.out (by kernel_rfl)) (fun _ _ _ h => h) (Or.inl ⟨by rfl, ?_⟩) ?_ ?_
    rotate_left
    · intro w'
      go_simp
      with_reducible rfl
    rotate_left
    · simp only [Act.put, List.setIfInBounds_toArray, List.set_cons_zero, List.set_cons_succ, i64_w, i32_w]
      rfl
    refine take_ (i := 3) (N := some 18) (v := ?_) (a' := ?_) #[true, true, true, true, true, true, true, false, false, false] rfl rfl (take_ofW HT_.out HW_.out (by kernel_rfl)) (fun _ _ _ h => h) (Or.inl ⟨by rfl, ?_⟩) hHeld ?_ ?_
    rotate_left
    · rintro w' ⟨s0, s1, s2, s3, s4⟩
      go_simp
      with_reducible rfl
    rotate_left
    · simp only [Act.put, List.setIfInBounds_toArray, List.set_cons_zero, List.set_cons_succ, i64_w, i32_w]
      rfl
    refine pure_ (i := 8) (N := some 4) (v := ?_) (a' := ?_) #[true, true, true, true, true, true, true, false, true, false] rfl rfl (any_of HT_.out (by kernel_rfl)) (fun _ _ _ h => h) (Or.inl ⟨by rfl, ?_⟩) ?_ ?_
    rotate_left
    · intro w'
      go_simp
      with_reducible rfl
    rotate_left
    · simp only [Act.put, List.setIfInBounds_toArray, List.set_cons_zero, List.set_cons_succ, i64_w, i32_w]
      rfl
    refine take_ (i := 7) (N := some 22) (v := ?_) (a' := ?_) #[true, true, true, true, true, true, true, true, true, false] rfl rfl (take_ofW HT_.out HW_.out (by kernel_rfl)) (fun _ _ _ h => h) (Or.inl ⟨by rfl, ?_⟩) hHeld ?_ ?_
    rotate_left
    · rintro w' ⟨s0, s1, s2, s3, s4⟩
      go_simp
      with_reducible rfl
    rotate_left
    · simp only [Act.put, List.setIfInBounds_toArray, List.set_cons_zero, List.set_cons_succ, i64_w, i32_w]
      rfl
    refine pure_ (i := 9) (N := some 5) (v := ?_) (a' := ?_) #[true, true, true, true, true, true, true, true, true, true] rfl rfl (any_of HT_.out (by kernel_rfl)) (fun _ _ _ h => h) (Or.inl ⟨by rfl, ?_⟩) ?_ ?_
    rotate_left
    · intro w'
      go_simp
      with_reducible rfl
    rotate_left
    · simp only [Act.put, List.setIfInBounds_toArray, List.set_cons_zero, List.set_cons_succ, i64_w, i32_w]
      rfl
    refine done_ (done_of HT_.out (by kernel_rfl)) ?_
    try go_wp2
    go_ret2
    exact ⟨by first | rfl | (simp [errW_none, errW_some] <;> rfl) | (simp [*, errW_none, errW_some] <;> rfl), by repeat (first | (with_reducible first | exact HI0.out | apply IsS138.alloc | apply IsS138.drewN | apply IsS138.drew | apply IsS138.set_0 | apply IsS138.set_1 | apply IsS138.set_2 | apply IsS138.set_3 | apply IsS138.set_4) | exact HI0.out), by repeat (first | (with_reducible first | exact HB.out | apply below_alloc | apply pw_below_drewN | apply below_drew1 | refine below_set ?_ (IsS138.ge HI0.out)) | exact HB.out), by repeat (first | (with_reducible first | exact HK.out | apply KeepBut.set_ | apply keep_drewN | apply keep_drew | apply keep_alloc) | exact HK.out)⟩
  · rw [if_neg c3] at H
    have c3b0 : decide (a1 ≤ s0_0) = false := decide_eq_false c3
    clear c3
    replace H := Option.bind_eq_some_iff.mp H
    obtain ⟨⟨t101, t102, t103⟩, A60, H⟩ := H
    replace H : (if t103 = 0 then (if t101 ≥ (IntKind.u64.wrap (4611686018427387904 - s0_1)) then (some (4611686018427387904, 0, s0_0, s0_1, s0_2, s0_3, s0_4)) else (some (IntKind.u64.wrap (s0_1 + t101), t102, s0_0, s0_1, s0_2, s0_3, s0_4))) else (some (4611686018427387904, 0, s0_0, s0_1, s0_2, s0_3, s0_4))) = some (r1, r2, r3, r4, r5, r6, r7) := H
    have A6 := Aside0.mk A60
    clear A60
    by_cases c7 : t103 = 0
    · rw [if_pos c7] at H
      have c7b0 : (t103 == 0) = true := beq_iff_eq.mpr c7
      have c7b1 : (t103 != 0) = false := bne_eq_false_iff_eq.mpr c7
      clear c7
      by_cases c8 : t101 ≥ (IntKind.u64.wrap (4611686018427387904 - s0_1))
      · rw [if_pos c8] at H
        have c8b0 : decide ((IntKind.u64.wrap (4611686018427387904 - s0_1)) ≤ t101) = true := decide_eq_true c8
        clear c8
        simp only [Option.some.injEq, Prod.mk.injEq] at H
        obtain ⟨rfl, rfl, rfl, rfl, rfl, rfl, rfl⟩ := H
        obtain ⟨HGz9, hgz9⟩ := HI0.out
        have hcz9_0 := cellS138_0 HGz9
        have hcz9_1 := cellS138_1 HGz9
        have hcz9_2 := cellS138_2 HGz9
        have hcz9_3 := cellS138_3 HGz9
        have hcz9_4 := cellS138_4 HGz9
        have hfz9_0 := blk_frozen HGz9 0
        have hfz9_1 := blk_frozen HGz9 1
        have hfz9_2 := blk_frozen HGz9 2
        have hfz9_3 := blk_frozen HGz9 3
        have hfz9_4 := blk_frozen HGz9 4
        clear HGz9 hgz9
        go_enter Tryd.func92, Tryd.ntmps92
        try go_wp2
        have n0_ := Aside0.mk (IsS138.drew HI0.out)
        have n1_ := Aside0.mk (keep_drew HK.out)
        have n2_ := Aside0.mk (below_drew1 HB.out)
        clear HI0
        clear HK
        clear HB
        have HI0 := n0_
        have HK := n1_
        have HB := n2_
        clear n0_ n1_ n2_
        refine start_ (n := 22) (S := fun w' => w'.cell? ⟨g, 0, none⟩ = some (.int .u64 s0_0) ∧ w'.cell? ⟨g, 1, none⟩ = some (.int .u64 s0_1) ∧ w'.cell? ⟨g, 2, none⟩ = some (.int .u64 s0_2) ∧ w'.cell? ⟨g, 3, none⟩ = some (.int .u64 s0_3) ∧ w'.cell? ⟨g, 4, none⟩ = some (.int .u64 s0_4)) (ds := []) #[false, false, false, false, false, false, false, false, false, false, false, false, false, false, false, false, false, false, false, false, false, false] (by kernel_rfl) rfl rfl ⟨(blk_cell (Aside0.mk HI0.out.1).out 0).trans rfl, (blk_cell (Aside0.mk HI0.out.1).out 1).trans rfl, (blk_cell (Aside0.mk HI0.out.1).out 2).trans rfl, (blk_cell (Aside0.mk HI0.out.1).out 3).trans rfl, (blk_cell (Aside0.mk HI0.out.1).out 4).trans rfl⟩ (fun hHeld => ?_); refine with_tabW clock_Clock_at.tab3 clock_Clock_at.bits3 (fun HT_ HW_ => ?_)
        generalize w.drew = w10 at HI0 HK HB hHeld ⊢
        refine pure_ (i := 0) (N := some 24) (v := ?_) (a' := ?_) #[true, false, false, false, false, false, false, false, false, false, false, false, false, false, false, false, false, false, false, false, false, false] rfl rfl (any_of HT_.out (by kernel_rfl)) (fun _ _ _ h => h) (Or.inl ⟨by rfl, ?_⟩) ?_ ?_
        rotate_left
        · intro w'
          go_simp
          with_reducible rfl
        rotate_left
        · simp only [Act.put, List.setIfInBounds_toArray, List.set_cons_zero, List.set_cons_succ, i64_w, i32_w]
          rfl
        refine pure_ (i := 1) (N := some 25) (v := ?_) (a' := ?_) #[true, true, false, false, false, false, false, false, false, false, false, false, false, false, false, false, false, false, false, false, false, false] rfl rfl (any_of HT_.out (by kernel_rfl)) (fun _ _ _ h => h) (Or.inl ⟨by rfl, ?_⟩) ?_ ?_
        rotate_left
        · intro w'
          go_simp
          with_reducible rfl
        rotate_left
        · simp only [Act.put, List.setIfInBounds_toArray, List.set_cons_zero, List.set_cons_succ, i64_w, i32_w]
          rfl
        refine pure_ (i := 2) (N := some 26) (v := ?_) (a' := ?_) #[true, true, true, false, false, false, false, false, false, false, false, false, false, false, false, false, false, false, false, false, false, false] rfl rfl (any_of HT_.out (by kernel_rfl)) (fun _ _ _ h => h) (Or.inl ⟨by rfl, ?_⟩) ?_ ?_
        rotate_left
        · intro w'
          go_simp
          with_reducible rfl
        rotate_left
        · simp only [Act.put, List.setIfInBounds_toArray, List.set_cons_zero, List.set_cons_succ, i64_w, i32_w]
          rfl
        refine pure_ (i := 3) (N := some 27) (v := ?_) (a' := ?_) #[true, true, true, true, false, false, false, false, false, false, false, false, false, false, false, false, false, false, false, false, false, false] rfl rfl (any_of HT_.out (by kernel_rfl)) (fun _ _ _ h => h) (Or.inl ⟨by rfl, ?_⟩) ?_ ?_
        rotate_left
        · intro w'
          go_simp
          with_reducible rfl
        rotate_left
        · simp only [Act.put, List.setIfInBounds_toArray, List.set_cons_zero, List.set_cons_succ, i64_w, i32_w]
          rfl
        refine pure_ (i := 6) (N := some 30) (v := ?_) (a' := ?_) #[true, true, true, true, false, false, true, false, false, false, false, false, false, false, false, false, false, false, false, false, false, false] rfl rfl (any_of HT_.out (by kernel_rfl)) (fun _ _ _ h => h) (Or.inl ⟨by rfl, ?_⟩) ?_ ?_
        rotate_left
        · intro w'
          go_simp
          with_reducible rfl
        rotate_left
        · simp only [Act.put, List.setIfInBounds_toArray, List.set_cons_zero, List.set_cons_succ, i64_w, i32_w]
          rfl
        refine pure_ (i := 7) (N := some 31) (v := ?_) (a' := ?_) #[true, true, true, true, false, false, true, true, false, false, false, false, false, false, false, false, false, false, false, false, false, false] rfl rfl (any_of HT_.out (by kernel_rfl)) (fun _ _ _ h => h) (Or.inl ⟨by rfl, ?_⟩) ?_ ?_
        rotate_left
        · intro w'
          go_simp
          with_reducible rfl
        rotate_left
        · simp only [Act.put, List.setIfInBounds_toArray, List.set_cons_zero, List.set_cons_succ, i64_w, i32_w]
          rfl
        refine pure_ (i := 8) (N := some 32) (v := ?_) (a' := ?_) #[true, true, true, true, false, false, true, true, true, false, false, false, false, false, false, false, false, false, false, false, false, false] rfl rfl (any_of HT_.out (by kernel_rfl)) (fun _ _ _ h => h) (Or.inl ⟨by rfl, ?_⟩) ?_ ?_
        rotate_left
        · intro w'
          go_simp
          with_reducible rfl
        rotate_left
        · simp only [Act.put, List.setIfInBounds_toArray, List.set_cons_zero, List.set_cons_succ, i64_w, i32_w]
          rfl
        refine pure_ (i := 10) (N := some 34) (v := ?_) (a' := ?_) #[true, true, true, true, false, false, true, true, true, false, true, false, false, false, false, false, false, false, false, false, false, false] rfl rfl (any_of HT_.out (by kernel_rfl)) (fun _ _ _ h => h) (Or.inl ⟨by rfl, ?_⟩) ?_ ?_
        rotate_left
        · intro w'
          go_simp
          with_reducible rfl
        rotate_left
        · simp only [Act.put, List.setIfInBounds_toArray, List.set_cons_zero, List.set_cons_succ, i64_w, i32_w]
          rfl
        refine pure_ (i := 11) (N := some 35) (v := ?_) (a' := ?_) #[true, true, true, true, false, false, true, true, true, false, true, true, false, false, false, false, false, false, false, false, false, false] rfl rfl (any_of HT_.out (by kernel_rfl)) (fun _ _ _ h => h) (Or.inl ⟨by rfl, ?_⟩) ?_ ?_
        rotate_left
        · intro w'
          go_simp
          with_reducible rfl
        rotate_left
        · simp only [Act.put, List.setIfInBounds_toArray, List.set_cons_zero, List.set_cons_succ, i64_w, i32_w]
          rfl
        refine pure_ (i := 12) (N := some 36) (v := ?_) (a' := ?_) #[true, true, true, true, false, false, true, true, true, false, true, true, true, false, false, false, false, false, false, false, false, false] rfl rfl (any_of HT_.out (by kernel_rfl)) (fun _ _ _ h => h) (Or.inl ⟨by rfl, ?_⟩) ?_ ?_
        rotate_left
        · intro w'
          go_simp
          with_reducible rfl
        rotate_left
        · simp only [Act.put, List.setIfInBounds_toArray, List.set_cons_zero, List.set_cons_succ, i64_w, i32_w]
          rfl
        refine take_ (i := 4) (N := some 28) (v := ?_) (a' := ?_) #[true, true, true, true, true, false, true, true, true, false, true, true, true, false, false, false, false, false, false, false, false, false] rfl rfl (take_ofW HT_.out HW_.out (by kernel_rfl)) (fun _ _ _ h => h) (Or.inl ⟨by rfl, ?_⟩) hHeld ?_ ?_
        rotate_left
        · rintro w' ⟨s0, s1, s2, s3, s4⟩
          go_simp
          with_reducible rfl
        rotate_left
        · simp only [Act.put, List.setIfInBounds_toArray, List.set_cons_zero, List.set_cons_succ, i64_w, i32_w]
          rfl
        refine pure_ (i := 5) (N := some 29) (v := ?_) (a' := ?_) #[true, true, true, true, true, true, true, true, true, false, true, true, true, false, false, false, false, false, false, false, false, false] rfl rfl (any_of HT_.out (by kernel_rfl)) (fun _ _ _ h => h) (Or.inl ⟨by rfl, ?_⟩) ?_ ?_
        rotate_left
        · intro w'
          go_simp
          with_reducible rfl
        rotate_left
        · simp only [Act.put, List.setIfInBounds_toArray, List.set_cons_zero, List.set_cons_succ, i64_w, i32_w]
          rfl
        refine take_ (i := 9) (N := some 33) (v := ?_) (a' := ?_) #[true, true, true, true, true, true, true, true, true, true, true, true, true, false, false, false, false, false, false, false, false, false] rfl rfl (take_ofW HT_.out HW_.out (by kernel_rfl)) (fun _ _ _ h => h) (Or.inl ⟨by rfl, ?_⟩) hHeld ?_ ?_
        rotate_left
        · rintro w' ⟨s0, s1, s2, s3, s4⟩
          go_simp
          with_reducible rfl
        rotate_left
        · simp only [Act.put, List.setIfInBounds_toArray, List.set_cons_zero, List.set_cons_succ, i64_w, i32_w]
          rfl
        refine take_ (i := 13) (N := some 37) (v := ?_) (a' := ?_) #[true, true, true, true, true, true, true, true, true, true, true, true, true, true, false, false, false, false, false, false, false, false] rfl rfl (take_ofW HT_.out HW_.out (by kernel_rfl)) (fun _ _ _ h => h) (Or.inl ⟨by rfl, ?_⟩) hHeld ?_ ?_
        rotate_left
        · rintro w' ⟨s0, s1, s2, s3, s4⟩
          go_simp
          with_reducible rfl
        rotate_left
        · simp only [Act.put, List.setIfInBounds_toArray, List.set_cons_zero, List.set_cons_succ, i64_w, i32_w]
          rfl
        refine one_ (i := 14) (N := some 38) #[true, true, true, true, true, true, true, true, true, true, true, true, true, true, true, false, false, false, false, false, false, false] rfl rfl (one_of HT_.out (by kernel_rfl)) (by decide) (fun K hK => ?_)
        refine goes_ Tryd.func26 (by kernel_rfl) rfl #[.int .u64 (IntKind.u64.wrap (a1 - s0_0)), .int .u64 s0_2, .agg #[.int .u64 s0_3, .int .u64 s0_4]] (by rfl) rfl rfl (by (try simp only [List.map_toArray, List.map_cons, List.map_nil]); first | done | rfl | (simp only [List.length_drop, List.length_take]; rfl)) ?_
        with_reducible refine (rate_Scale.calls (IntKind.u64.wrap (a1 - s0_0)) s0_2 s0_3 s0_4 t101 t102 t103 _ A6.out).mono ?_
        rintro e w11 ⟨rfl, hb⟩
        refine ⟨_, rfl, ?_⟩
        have n0_ := Aside0.mk (IsS138.below (by repeat (first | (with_reducible first | exact HI0.out | apply IsS138.alloc | apply IsS138.drewN | apply IsS138.drew | apply IsS138.set_0 | apply IsS138.set_1 | apply IsS138.set_2 | apply IsS138.set_3 | apply IsS138.set_4) | exact HI0.out)) hb)
        have n1_ := Aside0.mk (KeepBut.trans (by repeat (first | (with_reducible first | exact HK.out | apply KeepBut.set_ | apply keep_drewN | apply keep_drew | apply keep_alloc) | exact HK.out)) (KeepBut.of_below hb g none) (.inl rfl))
        have n2_ := Aside0.mk (below_step (by repeat (first | (with_reducible first | exact HB.out | apply below_alloc | apply pw_below_drewN | apply below_drew1 | refine below_set ?_ (IsS138.ge HI0.out)) | exact HB.out)) hb)
        clear HI0
        clear HK
        clear HB
        have HI0 := n0_
        have HK := n1_
        have HB := n2_
        clear n0_ n1_ n2_
        (try clear hb)
        (try clear hb2)
        (try clear hk)
        (try clear hi)
        refine hK.out _ _ ⟨(blk_cell (Aside0.mk HI0.out.1).out 0).trans rfl, (blk_cell (Aside0.mk HI0.out.1).out 1).trans rfl, (blk_cell (Aside0.mk HI0.out.1).out 2).trans rfl, (blk_cell (Aside0.mk HI0.out.1).out 3).trans rfl, (blk_cell (Aside0.mk HI0.out.1).out 4).trans rfl⟩ (fun hHeld => ?_)
        clear hK K
        refine norm_ (a' := ?_) ?_ ?_
        rotate_left
        · show Act.put _ (some 38) _ = _
          simp only [Act.put, List.setIfInBounds_toArray, List.set_cons_zero, List.set_cons_succ, i64_w, i32_w]
          rfl
        refine pure_ (i := 15) (N := some 23) (v := ?_) (a' := ?_) #[true, true, true, true, true, true, true, true, true, true, true, true, true, true, true, true, false, false, false, false, false, false] rfl rfl (any_of HT_.out (by kernel_rfl)) (fun _ _ _ h => h) (Or.inl ⟨by rfl, ?_⟩) ?_ ?_
        rotate_left
        · intro w'
          go_simp
          with_reducible rfl
        rotate_left
        · simp only [Act.put, List.setIfInBounds_toArray, List.set_cons_zero, List.set_cons_succ, i64_w, i32_w]
          rfl
        refine pure_ (i := 16) (N := some 39) (v := ?_) (a' := ?_) #[true, true, true, true, true, true, true, true, true, true, true, true, true, true, true, true, true, false, false, false, false, false] rfl rfl (any_of HT_.out (by kernel_rfl)) (fun _ _ _ h => h) (Or.inl ⟨by rfl, ?_⟩) ?_ ?_
        rotate_left
        · intro w'
          go_simp
          with_reducible rfl
        rotate_left
        · simp only [Act.put, List.setIfInBounds_toArray, List.set_cons_zero, List.set_cons_succ, i64_w, i32_w]
          rfl
        refine pure_ (i := 17) (N := some 40) (v := ?_) (a' := ?_) #[true, true, true, true, true, true, true, true, true, true, true, true, true, true, true, true, true, true, false, false, false, false] rfl rfl (any_of HT_.out (by kernel_rfl)) (fun _ _ _ h => h) (Or.inl ⟨by rfl, ?_⟩) ?_ ?_
        rotate_left
        · intro w'
          go_simp
          with_reducible rfl
        rotate_left
        · simp only [Act.put, List.setIfInBounds_toArray, List.set_cons_zero, List.set_cons_succ, i64_w, i32_w]
          rfl
        refine pure_ (i := 18) (N := some 41) (v := ?_) (a' := ?_) #[true, true, true, true, true, true, true, true, true, true, true, true, true, true, true, true, true, true, true, false, false, false] rfl rfl (any_of HT_.out (by kernel_rfl)) (fun _ _ _ h => h) (Or.inl ⟨by rfl, ?_⟩) ?_ ?_
        rotate_left
        · intro w'
          go_simp
          with_reducible rfl
        rotate_left
        · simp only [Act.put, List.setIfInBounds_toArray, List.set_cons_zero, List.set_cons_succ, i64_w, i32_w]
          rfl
        refine pure_ (i := 19) (N := some 6) (v := ?_) (a' := ?_) #[true, true, true, true, true, true, true, true, true, true, true, true, true, true, true, true, true, true, true, true, false, false] rfl rfl (any_of HT_.out (by kernel_rfl)) (fun _ _ _ h => h) (Or.inl ⟨by rfl, ?_⟩) ?_ ?_
        rotate_left
        · intro w'
          go_simp
          with_reducible rfl
        rotate_left
        · simp only [Act.put, List.setIfInBounds_toArray, List.set_cons_zero, List.set_cons_succ, i64_w, i32_w]
          rfl
        refine pure_ (i := 20) (N := some 7) (v := ?_) (a' := ?_) #[true, true, true, true, true, true, true, true, true, true, true, true, true, true, true, true, true, true, true, true, true, false] rfl rfl (any_of HT_.out (by kernel_rfl)) (fun _ _ _ h => h) (Or.inl ⟨by rfl, ?_⟩) ?_ ?_
        rotate_left
        · intro w'
          go_simp
          with_reducible rfl
        rotate_left
        · simp only [Act.put, List.setIfInBounds_toArray, List.set_cons_zero, List.set_cons_succ, i64_w, i32_w]
          rfl
        refine pure_ (i := 21) (N := some 8) (v := ?_) (a' := ?_) #[true, true, true, true, true, true, true, true, true, true, true, true, true, true, true, true, true, true, true, true, true, true] rfl rfl (any_of HT_.out (by kernel_rfl)) (fun _ _ _ h => h) (Or.inl ⟨by rfl, ?_⟩) ?_ ?_
        rotate_left
        · intro w'
          go_simp
          with_reducible rfl
        rotate_left
        · simp only [Act.put, List.setIfInBounds_toArray, List.set_cons_zero, List.set_cons_succ, i64_w, i32_w]
          rfl
        refine done_ (done_of HT_.out (by kernel_rfl)) ?_
        obtain ⟨HGz12, hgz12⟩ := HI0.out
        have hcz12_0 := cellS138_0 HGz12
        have hcz12_1 := cellS138_1 HGz12
        have hcz12_2 := cellS138_2 HGz12
        have hcz12_3 := cellS138_3 HGz12
        have hcz12_4 := cellS138_4 HGz12
        have hfz12_0 := blk_frozen HGz12 0
        have hfz12_1 := blk_frozen HGz12 1
        have hfz12_2 := blk_frozen HGz12 2
        have hfz12_3 := blk_frozen HGz12 3
        have hfz12_4 := blk_frozen HGz12 4
        clear HGz12 hgz12
        try go_wp2
        go_ret2
        exact ⟨by first | rfl | (simp [errW_none, errW_some] <;> rfl) | (simp [*, errW_none, errW_some] <;> rfl), by repeat (first | (with_reducible first | exact HI0.out | apply IsS138.alloc | apply IsS138.drewN | apply IsS138.drew | apply IsS138.set_0 | apply IsS138.set_1 | apply IsS138.set_2 | apply IsS138.set_3 | apply IsS138.set_4) | exact HI0.out), by repeat (first | (with_reducible first | exact HB.out | apply below_alloc | apply pw_below_drewN | apply below_drew1 | refine below_set ?_ (IsS138.ge HI0.out)) | exact HB.out), by repeat (first | (with_reducible first | exact HK.out | apply KeepBut.set_ | apply keep_drewN | apply keep_drew | apply keep_alloc) | exact HK.out)⟩
      · rw [if_neg c8] at H
        have c8b0 : decide ((IntKind.u64.wrap (4611686018427387904 - s0_1)) ≤ t101) = false := decide_eq_false c8
        clear c8
        simp only [Option.some.injEq, Prod.mk.injEq] at H
        obtain ⟨rfl, rfl, rfl, rfl, rfl, rfl, rfl⟩ := H
        obtain ⟨HGz13, hgz13⟩ := HI0.out
        have hcz13_0 := cellS138_0 HGz13
        have hcz13_1 := cellS138_1 HGz13
        have hcz13_2 := cellS138_2 HGz13
        have hcz13_3 := cellS138_3 HGz13
        have hcz13_4 := cellS138_4 HGz13
        have hfz13_0 := blk_frozen HGz13 0
        have hfz13_1 := blk_frozen HGz13 1
        have hfz13_2 := blk_frozen HGz13 2
        have hfz13_3 := blk_frozen HGz13 3
        have hfz13_4 := blk_frozen HGz13 4
        clear HGz13 hgz13
        go_enter Tryd.func92, Tryd.ntmps92
        try go_wp2
        have n0_ := Aside0.mk (IsS138.drew HI0.out)
        have n1_ := Aside0.mk (keep_drew HK.out)
        have n2_ := Aside0.mk (below_drew1 HB.out)
        clear HI0
        clear HK
        clear HB
        have HI0 := n0_
        have HK := n1_
        have HB := n2_
        clear n0_ n1_ n2_
        refine start_ (n := 22) (S := fun w' => w'.cell? ⟨g, 0, none⟩ = some (.int .u64 s0_0) ∧ w'.cell? ⟨g, 1, none⟩ = some (.int .u64 s0_1) ∧ w'.cell? ⟨g, 2, none⟩ = some (.int .u64 s0_2) ∧ w'.cell? ⟨g, 3, none⟩ = some (.int .u64 s0_3) ∧ w'.cell? ⟨g, 4, none⟩ = some (.int .u64 s0_4)) (ds := []) #[false, false, false, false, false, false, false, false, false, false, false, false, false, false, false, false, false, false, false, false, false, false] (by kernel_rfl) rfl rfl ⟨(blk_cell (Aside0.mk HI0.out.1).out 0).trans rfl, (blk_cell (Aside0.mk HI0.out.1).out 1).trans rfl, (blk_cell (Aside0.mk HI0.out.1).out 2).trans rfl, (blk_cell (Aside0.mk HI0.out.1).out 3).trans rfl, (blk_cell (Aside0.mk HI0.out.1).out 4).trans rfl⟩ (fun hHeld => ?_); refine with_tabW clock_Clock_at.tab3 clock_Clock_at.bits3 (fun HT_ HW_ => ?_)
        generalize w.drew = w14 at HI0 HK HB hHeld ⊢
        refine pure_ (i := 0) (N := some 24) (v := ?_) (a' := ?_) #[true, false, false, false, false, false, false, false, false, false, false, false, false, false, false, false, false, false, false, false, false, false] rfl rfl (any_of HT_.out (by kernel_rfl)) (fun _ _ _ h => h) (Or.inl ⟨by rfl, ?_⟩) ?_ ?_
        rotate_left
        · intro w'
          go_simp
          with_reducible rfl
        rotate_left
        · simp only [Act.put, List.setIfInBounds_toArray, List.set_cons_zero, List.set_cons_succ, i64_w, i32_w]
          rfl
        refine pure_ (i := 1) (N := some 25) (v := ?_) (a' := ?_) #[true, true, false, false, false, false, false, false, false, false, false, false, false, false, false, false, false, false, false, false, false, false] rfl rfl (any_of HT_.out (by kernel_rfl)) (fun _ _ _ h => h) (Or.inl ⟨by rfl, ?_⟩) ?_ ?_
        rotate_left
        · intro w'
          go_simp
          with_reducible rfl
        rotate_left
        · simp only [Act.put, List.setIfInBounds_toArray, List.set_cons_zero, List.set_cons_succ, i64_w, i32_w]
          rfl
        refine pure_ (i := 2) (N := some 26) (v := ?_) (a' := ?_) #[true, true, true, false, false, false, false, false, false, false, false, false, false, false, false, false, false, false, false, false, false, false] rfl rfl (any_of HT_.out (by kernel_rfl)) (fun _ _ _ h => h) (Or.inl ⟨by rfl, ?_⟩) ?_ ?_
        rotate_left
        · intro w'
          go_simp
          with_reducible rfl
        rotate_left
        · simp only [Act.put, List.setIfInBounds_toArray, List.set_cons_zero, List.set_cons_succ, i64_w, i32_w]
          rfl
        refine pure_ (i := 3) (N := some 27) (v := ?_) (a' := ?_) #[true, true, true, true, false, false, false, false, false, false, false, false, false, false, false, false, false, false, false, false, false, false] rfl rfl (any_of HT_.out (by kernel_rfl)) (fun _ _ _ h => h) (Or.inl ⟨by rfl, ?_⟩) ?_ ?_
        rotate_left
        · intro w'
          go_simp
          with_reducible rfl
        rotate_left
        · simp only [Act.put, List.setIfInBounds_toArray, List.set_cons_zero, List.set_cons_succ, i64_w, i32_w]
          rfl
        refine pure_ (i := 6) (N := some 30) (v := ?_) (a' := ?_) #[true, true, true, true, false, false, true, false, false, false, false, false, false, false, false, false, false, false, false, false, false, false] rfl rfl (any_of HT_.out (by kernel_rfl)) (fun _ _ _ h => h) (Or.inl ⟨by rfl, ?_⟩) ?_ ?_
        rotate_left
        · intro w'
          go_simp
          with_reducible rfl
        rotate_left
        · simp only [Act.put, List.setIfInBounds_toArray, List.set_cons_zero, List.set_cons_succ, i64_w, i32_w]
          rfl
        refine pure_ (i := 7) (N := some 31) (v := ?_) (a' := ?_) #[true, true, true, true, false, false, true, true, false, false, false, false, false, false, false, false, false, false, false, false, false, false] rfl rfl (any_of HT_.out (by kernel_rfl)) (fun _ _ _ h => h) (Or.inl ⟨by rfl, ?_⟩) ?_ ?_
        rotate_left
        · intro w'
          go_simp
          with_reducible rfl
        rotate_left
        · simp only [Act.put, List.setIfInBounds_toArray, List.set_cons_zero, List.set_cons_succ, i64_w, i32_w]
          rfl
        refine pure_ (i := 8) (N := some 32) (v := ?_) (a' := ?_) #[true, true, true, true, false, false, true, true, true, false, false, false, false, false, false, false, false, false, false, false, false, false] rfl rfl (any_of HT_.out (by kernel_rfl)) (fun _ _ _ h => h) (Or.inl ⟨by rfl, ?_⟩) ?_ ?_
        rotate_left
        · intro w'
          go_simp
          with_reducible rfl
        rotate_left
        · simp only [Act.put, List.setIfInBounds_toArray, List.set_cons_zero, List.set_cons_succ, i64_w, i32_w]
          rfl
        refine pure_ (i := 10) (N := some 34) (v := ?_) (a' := ?_) #[true, true, true, true, false, false, true, true, true, false, true, false, false, false, false, false, false, false, false, false, false, false] rfl rfl (any_of HT_.out (by kernel_rfl)) (fun _ _ _ h => h) (Or.inl ⟨by rfl, ?_⟩) ?_ ?_
        rotate_left
        · intro w'
          go_simp
          with_reducible rfl
        rotate_left
        · simp only [Act.put, List.setIfInBounds_toArray, List.set_cons_zero, List.set_cons_succ, i64_w, i32_w]
          rfl
        refine pure_ (i := 11) (N := some 35) (v := ?_) (a' := ?_) #[true, true, true, true, false, false, true, true, true, false, true, true, false, false, false, false, false, false, false, false, false, false] rfl rfl (any_of HT_.out (by kernel_rfl)) (fun _ _ _ h => h) (Or.inl ⟨by rfl, ?_⟩) ?_ ?_
        rotate_left
        · intro w'
          go_simp
          with_reducible rfl
        rotate_left
        · simp only [Act.put, List.setIfInBounds_toArray, List.set_cons_zero, List.set_cons_succ, i64_w, i32_w]
          rfl
        refine pure_ (i := 12) (N := some 36) (v := ?_) (a' := ?_) #[true, true, true, true, false, false, true, true, true, false, true, true, true, false, false, false, false, false, false, false, false, false] rfl rfl (any_of HT_.out (by kernel_rfl)) (fun _ _ _ h => h) (Or.inl ⟨by rfl, ?_⟩) ?_ ?_
        rotate_left
        · intro w'
          go_simp
          with_reducible rfl
        rotate_left
        · simp only [Act.put, List.setIfInBounds_toArray, List.set_cons_zero, List.set_cons_succ, i64_w, i32_w]
          rfl
        refine take_ (i := 4) (N := some 28) (v := ?_) (a' := ?_) #[true, true, true, true, true, false, true, true, true, false, true, true, true, false, false, false, false, false, false, false, false, false] rfl rfl (take_ofW HT_.out HW_.out (by kernel_rfl)) (fun _ _ _ h => h) (Or.inl ⟨by rfl, ?_⟩) hHeld ?_ ?_
        rotate_left
        · rintro w' ⟨s0, s1, s2, s3, s4⟩
          go_simp
          with_reducible rfl
        rotate_left
        · simp only [Act.put, List.setIfInBounds_toArray, List.set_cons_zero, List.set_cons_succ, i64_w, i32_w]
          rfl
        refine pure_ (i := 5) (N := some 29) (v := ?_) (a' := ?_) #[true, true, true, true, true, true, true, true, true, false, true, true, true, false, false, false, false, false, false, false, false, false] rfl rfl (any_of HT_.out (by kernel_rfl)) (fun _ _ _ h => h) (Or.inl ⟨by rfl, ?_⟩) ?_ ?_
        rotate_left
        · intro w'
          go_simp
          with_reducible rfl
        rotate_left
        · simp only [Act.put, List.setIfInBounds_toArray, List.set_cons_zero, List.set_cons_succ, i64_w, i32_w]
          rfl
        refine take_ (i := 9) (N := some 33) (v := ?_) (a' := ?_) #[true, true, true, true, true, true, true, true, true, true, true, true, true, false, false, false, false, false, false, false, false, false] rfl rfl (take_ofW HT_.out HW_.out (by kernel_rfl)) (fun _ _ _ h => h) (Or.inl ⟨by rfl, ?_⟩) hHeld ?_ ?_
        rotate_left
        · rintro w' ⟨s0, s1, s2, s3, s4⟩
          go_simp
          with_reducible rfl
        rotate_left
        · simp only [Act.put, List.setIfInBounds_toArray, List.set_cons_zero, List.set_cons_succ, i64_w, i32_w]
          rfl
        refine take_ (i := 13) (N := some 37) (v := ?_) (a' := ?_) #[true, true, true, true, true, true, true, true, true, true, true, true, true, true, false, false, false, false, false, false, false, false] rfl rfl (take_ofW HT_.out HW_.out (by kernel_rfl)) (fun _ _ _ h => h) (Or.inl ⟨by rfl, ?_⟩) hHeld ?_ ?_
        rotate_left
        · rintro w' ⟨s0, s1, s2, s3, s4⟩
          go_simp
          with_reducible rfl
        rotate_left
        · simp only [Act.put, List.setIfInBounds_toArray, List.set_cons_zero, List.set_cons_succ, i64_w, i32_w]
          rfl
        refine one_ (i := 14) (N := some 38) #[true, true, true, true, true, true, true, true, true, true, true, true, true, true, true, false, false, false, false, false, false, false] rfl rfl (one_of HT_.out (by kernel_rfl)) (by decide) (fun K hK => ?_)
        refine goes_ Tryd.func26 (by kernel_rfl) rfl #[.int .u64 (IntKind.u64.wrap (a1 - s0_0)), .int .u64 s0_2, .agg #[.int .u64 s0_3, .int .u64 s0_4]] (by rfl) rfl rfl (by (try simp only [List.map_toArray, List.map_cons, List.map_nil]); first | done | rfl | (simp only [List.length_drop, List.length_take]; rfl)) ?_
        with_reducible refine (rate_Scale.calls (IntKind.u64.wrap (a1 - s0_0)) s0_2 s0_3 s0_4 t101 t102 t103 _ A6.out).mono ?_
        rintro e w15 ⟨rfl, hb⟩
        refine ⟨_, rfl, ?_⟩
        have n0_ := Aside0.mk (IsS138.below (by repeat (first | (with_reducible first | exact HI0.out | apply IsS138.alloc | apply IsS138.drewN | apply IsS138.drew | apply IsS138.set_0 | apply IsS138.set_1 | apply IsS138.set_2 | apply IsS138.set_3 | apply IsS138.set_4) | exact HI0.out)) hb)
        have n1_ := Aside0.mk (KeepBut.trans (by repeat (first | (with_reducible first | exact HK.out | apply KeepBut.set_ | apply keep_drewN | apply keep_drew | apply keep_alloc) | exact HK.out)) (KeepBut.of_below hb g none) (.inl rfl))
        have n2_ := Aside0.mk (below_step (by repeat (first | (with_reducible first | exact HB.out | apply below_alloc | apply pw_below_drewN | apply below_drew1 | refine below_set ?_ (IsS138.ge HI0.out)) | exact HB.out)) hb)
        clear HI0
        clear HK
        clear HB
        have HI0 := n0_
        have HK := n1_
        have HB := n2_
        clear n0_ n1_ n2_
        (try clear hb)
        (try clear hb2)
        (try clear hk)
        (try clear hi)
        refine hK.out _ _ ⟨(blk_cell (Aside0.mk HI0.out.1).out 0).trans rfl, (blk_cell (Aside0.mk HI0.out.1).out 1).trans rfl, (blk_cell (Aside0.mk HI0.out.1).out 2).trans rfl, (blk_cell (Aside0.mk HI0.out.1).out 3).trans rfl, (blk_cell (Aside0.mk HI0.out.1).out 4).trans rfl⟩ (fun hHeld => ?_)
        clear hK K
        refine norm_ (a' := ?_) ?_ ?_
        rotate_left
        · show Act.put _ (some 38) _ = _
          simp only [Act.put, List.setIfInBounds_toArray, List.set_cons_zero, List.set_cons_succ, i64_w, i32_w]
          rfl
        refine pure_ (i := 15) (N := some 23) (v := ?_) (a' := ?_) #[true, true, true, true, true, true, true, true, true, true, true, true, true, true, true, true, false, false, false, false, false, false] rfl rfl (any_of HT_.out (by kernel_rfl)) (fun _ _ _ h => h) (Or.inl ⟨by rfl, ?_⟩) ?_ ?_
        rotate_left
        · intro w'
          go_simp
          with_reducible rfl
        rotate_left
        · simp only [Act.put, List.setIfInBounds_toArray, List.set_cons_zero, List.set_cons_succ, i64_w, i32_w]
          rfl
        refine pure_ (i := 16) (N := some 39) (v := ?_) (a' := ?_) #[true, true, true, true, true, true, true, true, true, true, true, true, true, true, true, true, true, false, false, false, false, false] rfl rfl (any_of HT_.out (by kernel_rfl)) (fun _ _ _ h => h) (Or.inl ⟨by rfl, ?_⟩) ?_ ?_
        rotate_left
        · intro w'
          go_simp
          with_reducible rfl
        rotate_left
        · simp only [Act.put, List.setIfInBounds_toArray, List.set_cons_zero, List.set_cons_succ, i64_w, i32_w]
          rfl
        refine pure_ (i := 17) (N := some 40) (v := ?_) (a' := ?_) #[true, true, true, true, true, true, true, true, true, true, true, true, true, true, true, true, true, true, false, false, false, false] rfl rfl (any_of HT_.out (by kernel_rfl)) (fun _ _ _ h => h) (Or.inl ⟨by rfl, ?_⟩) ?_ ?_
        rotate_left
        · intro w'
          go_simp
          with_reducible rfl
        rotate_left
        · simp only [Act.put, List.setIfInBounds_toArray, List.set_cons_zero, List.set_cons_succ, i64_w, i32_w]
          rfl
        refine pure_ (i := 18) (N := some 41) (v := ?_) (a' := ?_) #[true, true, true, true, true, true, true, true, true, true, true, true, true, true, true, true, true, true, true, false, false, false] rfl rfl (any_of HT_.out (by kernel_rfl)) (fun _ _ _ h => h) (Or.inl ⟨by rfl, ?_⟩) ?_ ?_
        rotate_left
        · intro w'
          go_simp
          with_reducible rfl
        rotate_left
        · simp only [Act.put, List.setIfInBounds_toArray, List.set_cons_zero, List.set_cons_succ, i64_w, i32_w]
          rfl
        refine pure_ (i := 19) (N := some 6) (v := ?_) (a' := ?_) #[true, true, true, true, true, true, true, true, true, true, true, true, true, true, true, true, true, true, true, true, false, false] rfl rfl (any_of HT_.out (by kernel_rfl)) (fun _ _ _ h => h) (Or.inl ⟨by rfl, ?_⟩) ?_ ?_
        rotate_left
        · intro w'
          go_simp
          with_reducible rfl
        rotate_left
        · simp only [Act.put, List.setIfInBounds_toArray, List.set_cons_zero, List.set_cons_succ, i64_w, i32_w]
          rfl
        refine pure_ (i := 20) (N := some 7) (v := ?_) (a' := ?_) #[true, true, true, true, true, true, true, true, true, true, true, true, true, true, true, true, true, true, true, true, true, false] rfl rfl (any_of HT_.out (by kernel_rfl)) (fun _ _ _ h => h) (Or.inl ⟨by rfl, ?_⟩) ?_ ?_
        rotate_left
        · intro w'
          go_simp
          with_reducible rfl
        rotate_left
        · simp only [Act.put, List.setIfInBounds_toArray, List.set_cons_zero, List.set_cons_succ, i64_w, i32_w]
          rfl
        refine pure_ (i := 21) (N := some 8) (v := ?_) (a' := ?_) #[true, true, true, true, true, true, true, true, true, true, true, true, true, true, true, true, true, true, true, true, true, true] rfl rfl (any_of HT_.out (by kernel_rfl)) (fun _ _ _ h => h) (Or.inl ⟨by rfl, ?_⟩) ?_ ?_
        rotate_left
        · intro w'
          go_simp
          with_reducible rfl
        rotate_left
        · simp only [Act.put, List.setIfInBounds_toArray, List.set_cons_zero, List.set_cons_succ, i64_w, i32_w]
          rfl
        refine done_ (done_of HT_.out (by kernel_rfl)) ?_
        obtain ⟨HGz16, hgz16⟩ := HI0.out
        have hcz16_0 := cellS138_0 HGz16
        have hcz16_1 := cellS138_1 HGz16
        have hcz16_2 := cellS138_2 HGz16
        have hcz16_3 := cellS138_3 HGz16
        have hcz16_4 := cellS138_4 HGz16
        have hfz16_0 := blk_frozen HGz16 0
        have hfz16_1 := blk_frozen HGz16 1
        have hfz16_2 := blk_frozen HGz16 2
        have hfz16_3 := blk_frozen HGz16 3
        have hfz16_4 := blk_frozen HGz16 4
        clear HGz16 hgz16
        try go_wp2
        go_ret2
        exact ⟨by first | rfl | (simp [errW_none, errW_some] <;> rfl) | (simp [*, errW_none, errW_some] <;> rfl), by repeat (first | (with_reducible first | exact HI0.out | apply IsS138.alloc | apply IsS138.drewN | apply IsS138.drew | apply IsS138.set_0 | apply IsS138.set_1 | apply IsS138.set_2 | apply IsS138.set_3 | apply IsS138.set_4) | exact HI0.out), by repeat (first | (with_reducible first | exact HB.out | apply below_alloc | apply pw_below_drewN | apply below_drew1 | refine below_set ?_ (IsS138.ge HI0.out)) | exact HB.out), by repeat (first | (with_reducible first | exact HK.out | apply KeepBut.set_ | apply keep_drewN | apply keep_drew | apply keep_alloc) | exact HK.out)⟩
    · rw [if_neg c7] at H
      have c7b0 : (t103 == 0) = false := beq_eq_false_iff_ne.mpr c7
      have c7b1 : (t103 != 0) = true := bne_iff_ne.mpr c7
      simp only [Option.some.injEq, Prod.mk.injEq] at H
      obtain ⟨rfl, rfl, rfl, rfl, rfl, rfl, rfl⟩ := H
      obtain ⟨HGz17, hgz17⟩ := HI0.out
      have hcz17_0 := cellS138_0 HGz17
      have hcz17_1 := cellS138_1 HGz17
      have hcz17_2 := cellS138_2 HGz17
      have hcz17_3 := cellS138_3 HGz17
      have hcz17_4 := cellS138_4 HGz17
      have hfz17_0 := blk_frozen HGz17 0
      have hfz17_1 := blk_frozen HGz17 1
      have hfz17_2 := blk_frozen HGz17 2
      have hfz17_3 := blk_frozen HGz17 3
      have hfz17_4 := blk_frozen HGz17 4
      clear HGz17 hgz17
      go_enter Tryd.func92, Tryd.ntmps92
      try go_wp2
      have n0_ := Aside0.mk (IsS138.drew HI0.out)
      have n1_ := Aside0.mk (keep_drew HK.out)
      have n2_ := Aside0.mk (below_drew1 HB.out)
      clear HI0
      clear HK
      clear HB
      have HI0 := n0_
      have HK := n1_
      have HB := n2_
      clear n0_ n1_ n2_
      refine start_ (n := 22) (S := fun w' => w'.cell? ⟨g, 0, none⟩ = some (.int .u64 s0_0) ∧ w'.cell? ⟨g, 1, none⟩ = some (.int .u64 s0_1) ∧ w'.cell? ⟨g, 2, none⟩ = some (.int .u64 s0_2) ∧ w'.cell? ⟨g, 3, none⟩ = some (.int .u64 s0_3) ∧ w'.cell? ⟨g, 4, none⟩ = some (.int .u64 s0_4)) (ds := []) #[false, false, false, false, false, false, false, false, false, false, false, false, false, false, false, false, false, false, false, false, false, false] (by kernel_rfl) rfl rfl ⟨(blk_cell (Aside0.mk HI0.out.1).out 0).trans rfl, (blk_cell (Aside0.mk HI0.out.1).out 1).trans rfl, (blk_cell (Aside0.mk HI0.out.1).out 2).trans rfl, (blk_cell (Aside0.mk HI0.out.1).out 3).trans rfl, (blk_cell (Aside0.mk HI0.out.1).out 4).trans rfl⟩ (fun hHeld => ?_); refine with_tabW clock_Clock_at.tab3 clock_Clock_at.bits3 (fun HT_ HW_ => ?_)
      generalize w.drew = w18 at HI0 HK HB hHeld ⊢
      refine pure_ (i := 0) (N := some 24) (v := ?_) (a' := ?_) #[true, false, false, false, false, false, false, false, false, false, false, false, false, false, false, false, false, false, false, false, false, false] rfl rfl (any_of HT_.out (by kernel_rfl)) (fun _ _ _ h => h) (Or.inl ⟨by rfl, ?_⟩) ?_ ?_
      rotate_left
      · intro w'
        go_simp
        with_reducible rfl
      rotate_left
      · simp only [Act.put, List.setIfInBounds_toArray, List.set_cons_zero, List.set_cons_succ, i64_w, i32_w]
        rfl
      refine pure_ (i := 1) (N := some 25) (v := ?_) (a' := ?_) #[true, true, false, false, false, false, false, false, false, false, false, false, false, false, false, false, false, false, false, false, false, false] rfl rfl (any_of HT_.out (by kernel_rfl)) (fun _ _ _ h => h) (Or.inl ⟨by rfl, ?_⟩) ?_ ?_
      rotate_left
      · intro w'
        go_simp
        with_reducible rfl
      rotate_left
      · simp only [Act.put, List.setIfInBounds_toArray, List.set_cons_zero, List.set_cons_succ, i64_w, i32_w]
        rfl
      refine pure_ (i := 2) (N := some 26) (v := ?_) (a' := ?_) #[true, true, true, false, false, false, false, false, false, false, false, false, false, false, false, false, false, false, false, false, false, false] rfl rfl (any_of HT_.out (by kernel_rfl)) (fun _ _ _ h => h) (Or.inl ⟨by rfl, ?_⟩) ?_ ?_
      rotate_left
      · intro w'
        go_simp
        with_reducible rfl
      rotate_left
      · simp only [Act.put, List.setIfInBounds_toArray, List.set_cons_zero, List.set_cons_succ, i64_w, i32_w]
        rfl
      refine pure_ (i := 3) (N := some 27) (v := ?_) (a' := ?_) #[true, true, true, true, false, false, false, false, false, false, false, false, false, false, false, false, false, false, false, false, false, false] rfl rfl (any_of HT_.out (by kernel_rfl)) (fun _ _ _ h => h) (Or.inl ⟨by rfl, ?_⟩) ?_ ?_
      rotate_left
      · intro w'
        go_simp
        with_reducible rfl
      rotate_left
      · simp only [Act.put, List.setIfInBounds_toArray, List.set_cons_zero, List.set_cons_succ, i64_w, i32_w]
        rfl
      refine pure_ (i := 6) (N := some 30) (v := ?_) (a' := ?_) #[true, true, true, true, false, false, true, false, false, false, false, false, false, false, false, false, false, false, false, false, false, false] rfl rfl (any_of HT_.out (by kernel_rfl)) (fun _ _ _ h => h) (Or.inl ⟨by rfl, ?_⟩) ?_ ?_
      rotate_left
      · intro w'
        go_simp
        with_reducible rfl
      rotate_left
      · simp only [Act.put, List.setIfInBounds_toArray, List.set_cons_zero, List.set_cons_succ, i64_w, i32_w]
        rfl
      refine pure_ (i := 7) (N := some 31) (v := ?_) (a' := ?_) #[true, true, true, true, false, false, true, true, false, false, false, false, false, false, false, false, false, false, false, false, false, false] rfl rfl (any_of HT_.out (by kernel_rfl)) (fun _ _ _ h => h) (Or.inl ⟨by rfl, ?_⟩) ?_ ?_
      rotate_left
      · intro w'
        go_simp
        with_reducible rfl
      rotate_left
      · simp only [Act.put, List.setIfInBounds_toArray, List.set_cons_zero, List.set_cons_succ, i64_w, i32_w]
        rfl
      refine pure_ (i := 8) (N := some 32) (v := ?_) (a' := ?_) #[true, true, true, true, false, false, true, true, true, false, false, false, false, false, false, false, false, false, false, false, false, false] rfl rfl (any_of HT_.out (by kernel_rfl)) (fun _ _ _ h => h) (Or.inl ⟨by rfl, ?_⟩) ?_ ?_
      rotate_left
      · intro w'
        go_simp
        with_reducible rfl
      rotate_left
      · simp only [Act.put, List.setIfInBounds_toArray, List.set_cons_zero, List.set_cons_succ, i64_w, i32_w]
        rfl
      refine pure_ (i := 10) (N := some 34) (v := ?_) (a' := ?_) #[true, true, true, true, false, false, true, true, true, false, true, false, false, false, false, false, false, false, false, false, false, false] rfl rfl (any_of HT_.out (by kernel_rfl)) (fun _ _ _ h => h) (Or.inl ⟨by rfl, ?_⟩) ?_ ?_
      rotate_left
      · intro w'
        go_simp
        with_reducible rfl
      rotate_left
      · simp only [Act.put, List.setIfInBounds_toArray, List.set_cons_zero, List.set_cons_succ, i64_w, i32_w]
        rfl
      refine pure_ (i := 11) (N := some 35) (v := ?_) (a' := ?_) #[true, true, true, true, false, false, true, true, true, false, true, true, false, false, false, false, false, false, false, false, false, false] rfl rfl (any_of HT_.out (by kernel_rfl)) (fun _ _ _ h => h) (Or.inl ⟨by rfl, ?_⟩) ?_ ?_
      rotate_left
      · intro w'
        go_simp
        with_reducible rfl
      rotate_left
      · simp only [Act.put, List.setIfInBounds_toArray, List.set_cons_zero, List.set_cons_succ, i64_w, i32_w]
        rfl
      refine pure_ (i := 12) (N := some 36) (v := ?_) (a' := ?_) #[true, true, true, true, false, false, true, true, true, false, true, true, true, false, false, false, false, false, false, false, false, false] rfl rfl (any_of HT_.out (by kernel_rfl)) (fun _ _ _ h => h) (Or.inl ⟨by rfl, ?_⟩) ?_ ?_
      rotate_left
      · intro w'
        go_simp
        with_reducible rfl
      rotate_left
      · simp only [Act.put, List.setIfInBounds_toArray, List.set_cons_zero, List.set_cons_succ, i64_w, i32_w]
        rfl
      refine take_ (i := 4) (N := some 28) (v := ?_) (a' := ?_) #[true, true, true, true, true, false, true, true, true, false, true, true, true, false, false, false, false, false, false, false, false, false] rfl rfl (take_ofW HT_.out HW_.out (by kernel_rfl)) (fun _ _ _ h => h) (Or.inl ⟨by rfl, ?_⟩) hHeld ?_ ?_
      rotate_left
      · rintro w' ⟨s0, s1, s2, s3, s4⟩
        go_simp
        with_reducible rfl
      rotate_left
      · simp only [Act.put, List.setIfInBounds_toArray, List.set_cons_zero, List.set_cons_succ, i64_w, i32_w]
        rfl
      refine pure_ (i := 5) (N := some 29) (v := ?_) (a' := ?_) #[true, true, true, true, true, true, true, true, true, false, true, true, true, false, false, false, false, false, false, false, false, false] rfl rfl (any_of HT_.out (by kernel_rfl)) (fun _ _ _ h => h) (Or.inl ⟨by rfl, ?_⟩) ?_ ?_
      rotate_left
      · intro w'
        go_simp
        with_reducible rfl
      rotate_left
      · simp only [Act.put, List.setIfInBounds_toArray, List.set_cons_zero, List.set_cons_succ, i64_w, i32_w]
        rfl
      refine take_ (i := 9) (N := some 33) (v := ?_) (a' := ?_) #[true, true, true, true, true, true, true, true, true, true, true, true, true, false, false, false, false, false, false, false, false, false] rfl rfl (take_ofW HT_.out HW_.out (by kernel_rfl)) (fun _ _ _ h => h) (Or.inl ⟨by rfl, ?_⟩) hHeld ?_ ?_
      rotate_left
      · rintro w' ⟨s0, s1, s2, s3, s4⟩
        go_simp
        with_reducible rfl
      rotate_left
      · simp only [Act.put, List.setIfInBounds_toArray, List.set_cons_zero, List.set_cons_succ, i64_w, i32_w]
        rfl
      refine take_ (i := 13) (N := some 37) (v := ?_) (a' := ?_) #[true, true, true, true, true, true, true, true, true, true, true, true, true, true, false, false, false, false, false, false, false, false] rfl rfl (take_ofW HT_.out HW_.out (by kernel_rfl)) (fun _ _ _ h => h) (Or.inl ⟨by rfl, ?_⟩) hHeld ?_ ?_
      rotate_left
      · rintro w' ⟨s0, s1, s2, s3, s4⟩
        go_simp
        with_reducible rfl
      rotate_left
      · simp only [Act.put, List.setIfInBounds_toArray, List.set_cons_zero, List.set_cons_succ, i64_w, i32_w]
        rfl
      refine one_ (i := 14) (N := some 38) #[true, true, true, true, true, true, true, true, true, true, true, true, true, true, true, false, false, false, false, false, false, false] rfl rfl (one_of HT_.out (by kernel_rfl)) (by decide) (fun K hK => ?_)
      refine goes_ Tryd.func26 (by kernel_rfl) rfl #[.int .u64 (IntKind.u64.wrap (a1 - s0_0)), .int .u64 s0_2, .agg #[.int .u64 s0_3, .int .u64 s0_4]] (by rfl) rfl rfl (by (try simp only [List.map_toArray, List.map_cons, List.map_nil]); first | done | rfl | (simp only [List.length_drop, List.length_take]; rfl)) ?_
      with_reducible refine (rate_Scale.calls (IntKind.u64.wrap (a1 - s0_0)) s0_2 s0_3 s0_4 t101 t102 t103 _ A6.out).mono ?_
      rintro e w19 ⟨rfl, hb⟩
      refine ⟨_, rfl, ?_⟩
      have n0_ := Aside0.mk (IsS138.below (by repeat (first | (with_reducible first | exact HI0.out | apply IsS138.alloc | apply IsS138.drewN | apply IsS138.drew | apply IsS138.set_0 | apply IsS138.set_1 | apply IsS138.set_2 | apply IsS138.set_3 | apply IsS138.set_4) | exact HI0.out)) hb)
      have n1_ := Aside0.mk (KeepBut.trans (by repeat (first | (with_reducible first | exact HK.out | apply KeepBut.set_ | apply keep_drewN | apply keep_drew | apply keep_alloc) | exact HK.out)) (KeepBut.of_below hb g none) (.inl rfl))
      have n2_ := Aside0.mk (below_step (by repeat (first | (with_reducible first | exact HB.out | apply below_alloc | apply pw_below_drewN | apply below_drew1 | refine below_set ?_ (IsS138.ge HI0.out)) | exact HB.out)) hb)
      clear HI0
      clear HK
      clear HB
      have HI0 := n0_
      have HK := n1_
      have HB := n2_
      clear n0_ n1_ n2_
      (try clear hb)
      (try clear hb2)
      (try clear hk)
      (try clear hi)
      refine hK.out _ _ ⟨(blk_cell (Aside0.mk HI0.out.1).out 0).trans rfl, (blk_cell (Aside0.mk HI0.out.1).out 1).trans rfl, (blk_cell (Aside0.mk HI0.out.1).out 2).trans rfl, (blk_cell (Aside0.mk HI0.out.1).out 3).trans rfl, (blk_cell (Aside0.mk HI0.out.1).out 4).trans rfl⟩ (fun hHeld => ?_)
      clear hK K
      refine norm_ (a' := ?_) ?_ ?_
      rotate_left
      · show Act.put _ (some 38) _ = _
        simp only [Act.put, List.setIfInBounds_toArray, List.set_cons_zero, List.set_cons_succ, i64_w, i32_w]
        rfl
      refine pure_ (i := 15) (N := some 23) (v := ?_) (a' := ?_) #[true, true, true, true, true, true, true, true, true, true, true, true, true, true, true, true, false, false, false, false, false, false] rfl rfl (any_of HT_.out (by kernel_rfl)) (fun _ _ _ h => h) (Or.inl ⟨by rfl, ?_⟩) ?_ ?_
      rotate_left
      · intro w'
        go_simp
        with_reducible rfl
      rotate_left
      · simp only [Act.put, List.setIfInBounds_toArray, List.set_cons_zero, List.set_cons_succ, i64_w, i32_w]
        rfl
      refine pure_ (i := 16) (N := some 39) (v := ?_) (a' := ?_) #[true, true, true, true, true, true, true, true, true, true, true, true, true, true, true, true, true, false, false, false, false, false] rfl rfl (any_of HT_.out (by kernel_rfl)) (fun _ _ _ h => h) (Or.inl ⟨by rfl, ?_⟩) ?_ ?_
      rotate_left
      · intro w'
        go_simp
        with_reducible rfl
      rotate_left
      · simp only [Act.put, List.setIfInBounds_toArray, List.set_cons_zero, List.set_cons_succ, i64_w, i32_w]
        rfl
      refine pure_ (i := 17) (N := some 40) (v := ?_) (a' := ?_) #[true, true, true, true, true, true, true, true, true, true, true, true, true, true, true, true, true, true, false, false, false, false] rfl rfl (any_of HT_.out (by kernel_rfl)) (fun _ _ _ h => h) (Or.inl ⟨by rfl, ?_⟩) ?_ ?_
      rotate_left
      · intro w'
        go_simp
        with_reducible rfl
      rotate_left
      · simp only [Act.put, List.setIfInBounds_toArray, List.set_cons_zero, List.set_cons_succ, i64_w, i32_w]
        rfl
      refine pure_ (i := 18) (N := some 41) (v := ?_) (a' := ?_) #[true, true, true, true, true, true, true, true, true, true, true, true, true, true, true, true, true, true, true, false, false, false] rfl rfl (any_of HT_.out (by kernel_rfl)) (fun _ _ _ h => h) (Or.inl ⟨by rfl, ?_⟩) ?_ ?_
      rotate_left
      · intro w'
        go_simp
        with_reducible rfl
      rotate_left
      · simp only [Act.put, List.setIfInBounds_toArray, List.set_cons_zero, List.set_cons_succ, i64_w, i32_w]
        rfl
      refine pure_ (i := 19) (N := some 6) (v := ?_) (a' := ?_) #[true, true, true, true, true, true, true, true, true, true, true, true, true, true, true, true, true, true, true, true, false, false] rfl rfl (any_of HT_.out (by kernel_rfl)) (fun _ _ _ h => h) (Or.inl ⟨by rfl, ?_⟩) ?_ ?_
      rotate_left
      · intro w'
        go_simp
        with_reducible rfl
      rotate_left
      · simp only [Act.put, List.setIfInBounds_toArray, List.set_cons_zero, List.set_cons_succ, i64_w, i32_w]
        rfl
      refine pure_ (i := 20) (N := some 7) (v := ?_) (a' := ?_) #[true, true, true, true, true, true, true, true, true, true, true, true, true, true, true, true, true, true, true, true, true, false] rfl rfl (any_of HT_.out (by kernel_rfl)) (fun _ _ _ h => h) (Or.inl ⟨by rfl, ?_⟩) ?_ ?_
      rotate_left
      · intro w'
        go_simp
        with_reducible rfl
      rotate_left
      · simp only [Act.put, List.setIfInBounds_toArray, List.set_cons_zero, List.set_cons_succ, i64_w, i32_w]
        rfl
      refine pure_ (i := 21) (N := some 8) (v := ?_) (a' := ?_) #[true, true, true, true, true, true, true, true, true, true, true, true, true, true, true, true, true, true, true, true, true, true] rfl rfl (any_of HT_.out (by kernel_rfl)) (fun _ _ _ h => h) (Or.inl ⟨by rfl, ?_⟩) ?_ ?_
      rotate_left
      · intro w'
        go_simp
        with_reducible rfl
      rotate_left
      · simp only [Act.put, List.setIfInBounds_toArray, List.set_cons_zero, List.set_cons_succ, i64_w, i32_w]
        rfl
      refine done_ (done_of HT_.out (by kernel_rfl)) ?_
      try go_wp2
      go_ret2
      exact ⟨by first | rfl | (simp [errW_none, errW_some] <;> rfl) | (simp [*, errW_none, errW_some] <;> rfl), by repeat (first | (with_reducible first | exact HI0.out | apply IsS138.alloc | apply IsS138.drewN | apply IsS138.drew | apply IsS138.set_0 | apply IsS138.set_1 | apply IsS138.set_2 | apply IsS138.set_3 | apply IsS138.set_4) | exact HI0.out), by repeat (first | (with_reducible first | exact HB.out | apply below_alloc | apply pw_below_drewN | apply below_drew1 | refine below_set ?_ (IsS138.ge HI0.out)) | exact HB.out), by repeat (first | (with_reducible first | exact HK.out | apply KeepBut.set_ | apply keep_drewN | apply keep_drew | apply keep_alloc) | exact HK.out)⟩
end Go.Proofs.YtlgfmmkabnbllaaDoor.PC
namespace Go.Proofs.YtlgfmmkabnbllaaDoor.PC
open Go.RowKit Go.Proofs.YtlgfmmkabnbllaaDoorW.PrintWords Go.Proofs.YtlgfmmkabnbllaaDoorW.PrintLast Go.Proofs.YtlgfmmkabnbllaaDoorW.PrintMore
attribute [local go_sem] max2_int min2_int max_two min_two max_three min_three max_four min_four
open Go.Proofs.YtlgfmmkabnbllaaDoor.Hand
open Go.Proofs.YtlgfmmkabnbllaaDoor.PA
open Go.Proofs.YtlgfmmkabnbllaaDoor.PB
set_option linter.unusedVariables false
set_option linter.unusedSimpArgs false
def clock_Clock_Go.f (s0_0 : Int) (s0_1 : Int) (s0_2 : Int) (s0_3 : Int) (s0_4 : Int) (a1 : Int) : Option (Int × Int × Int × Int × Int × Int) := if a1 > s0_0 then ((clock_Clock_at.f s0_0 s0_1 s0_2 s0_3 s0_4 a1).bind fun bt104 => (some (bt104.1, a1, bt104.1, bt104.2.1, bt104.2.2.2.2.2.1, bt104.2.2.2.2.2.2))) else (some (s0_1, s0_0, s0_1, s0_2, s0_3, s0_4))
set_option maxHeartbeats 8000000 in
set_option maxRecDepth 100000 in
theorem clock_Clock_Go.calls (g : Nat) (s0_0 : Int) (s0_1 : Int) (s0_2 : Int) (s0_3 : Int) (s0_4 : Int) (a1 : Int) (r1 : Int) (r2 : Int) (r3 : Int) (r4 : Int) (r5 : Int) (r6 : Int) (w0 w : World) (hI : IsS138 w0 w g s0_0 s0_1 s0_2 s0_3 s0_4) (hB : Below w0.heap.size w0 w) (h : clock_Clock_Go.f s0_0 s0_1 s0_2 s0_3 s0_4 a1 = some (r1, r2, r3, r4, r5, r6)) :
    Calls Tryd.prog 58 #[.pointer (some ⟨g, 0, none⟩), .int .u64 a1] w fun e w' => e = .returned (.int .u64 r1) ∧ IsS138 w0 w' g r2 r3 r4 r5 r6 ∧ Below w0.heap.size w0 w' ∧ KeepBut w w' g none := by
  have HI0 := Aside0.mk hI
  have HK := Aside0.mk (KeepBut.refl w g none)
  have HL := Aside0.mk hB.size
  clear hI
  have HW0 := Aside0.mk hB.size
  have HB := Aside0.mk hB
  clear hB
  have H : (if a1 > s0_0 then ((clock_Clock_at.f s0_0 s0_1 s0_2 s0_3 s0_4 a1).bind fun bt104 => (some (bt104.1, a1, bt104.1, bt104.2.1, bt104.2.2.2.2.2.1, bt104.2.2.2.2.2.2))) else (some (s0_1, s0_0, s0_1, s0_2, s0_3, s0_4))) = some (r1, r2, r3, r4, r5, r6) := h
  clear h
  by_cases c3 : a1 > s0_0
  · rw [if_pos c3] at H
    have c3b0 : decide (s0_0 < a1) = true := decide_eq_true c3
    clear c3
    replace H := Option.bind_eq_some_iff.mp H
    obtain ⟨⟨t104, t105, t106, t107, t108, t109, t110⟩, A40, H⟩ := H
    replace H : (some (t104, a1, t104, t105, t109, t110)) = some (r1, r2, r3, r4, r5, r6) := H
    have A4 := Aside0.mk A40
    clear A40
    simp only [Option.some.injEq, Prod.mk.injEq] at H
    obtain ⟨rfl, rfl, rfl, rfl, rfl, rfl⟩ := H
    obtain ⟨HGz5, hgz5⟩ := HI0.out
    have hcz5_0 := cellS138_0 HGz5
    have hcz5_1 := cellS138_1 HGz5
    have hcz5_2 := cellS138_2 HGz5
    have hcz5_3 := cellS138_3 HGz5
    have hcz5_4 := cellS138_4 HGz5
    have hfz5_0 := blk_frozen HGz5 0
    have hfz5_1 := blk_frozen HGz5 1
    have hfz5_2 := blk_frozen HGz5 2
    have hfz5_3 := blk_frozen HGz5 3
    have hfz5_4 := blk_frozen HGz5 4
    clear HGz5 hgz5
    go_enter Tryd.func58, Tryd.ntmps58
    go_wp2_with (first | ((with_reducible refine gate_callee (f := 92) rfl ?_); refine goesL_ (some 16) rfl rfl Tryd.func92 (by kernel_rfl) rfl #[.pointer (some ⟨g, 0, none⟩), .int .u64 a1] rfl (by (try simp only [List.map_toArray, List.map_cons, List.map_nil]); first | done | rfl | (simp only [List.length_drop, List.length_take]; rfl)) ?_; (with_reducible refine (clock_Clock_at.calls g s0_0 s0_1 s0_2 s0_3 s0_4 a1 t104 t105 t106 t107 t108 t109 t110 w0 _ ?side1 ?side2 A4.out).mono ?_); (case side1 => repeat (first | (with_reducible first | exact HI0.out | apply IsS138.alloc | apply IsS138.drewN | apply IsS138.drew | apply IsS138.set_0 | apply IsS138.set_1 | apply IsS138.set_2 | apply IsS138.set_3 | apply IsS138.set_4) | exact HI0.out)); (case side2 => repeat (first | (with_reducible first | exact HB.out | apply below_alloc | apply pw_below_drewN | apply below_drew1 | refine below_set ?_ (IsS138.ge HI0.out)) | exact HB.out)); rintro e w6 ⟨rfl, hi, hb, hk⟩; refine ⟨_, rfl, ?_⟩; have n0_ := Aside0.mk (KeepBut.trans (by repeat (first | (with_reducible first | exact HK.out | apply KeepBut.set_ | apply keep_drewN | apply keep_drew | apply keep_alloc) | exact HK.out)) hk (.inl rfl)); have n1_ := Aside0.mk (hb); have n2_ := Aside0.mk (hi); clear HK; clear HB; clear HI0; have HK := n0_; have HB := n1_; have HI0 := n2_; clear n0_ n1_ n2_; (try clear hb); (try clear hb2); (try clear hk); (try clear hi); obtain ⟨HGz7, hgz7⟩ := HI0.out; have hcz7_0 := cellS138_0 HGz7; have hcz7_1 := cellS138_1 HGz7; have hcz7_2 := cellS138_2 HGz7; have hcz7_3 := cellS138_3 HGz7; have hcz7_4 := cellS138_4 HGz7; have hfz7_0 := blk_frozen HGz7 0; have hfz7_1 := blk_frozen HGz7 1; have hfz7_2 := blk_frozen HGz7 2; have hfz7_3 := blk_frozen HGz7 3; have hfz7_4 := blk_frozen HGz7 4; clear HGz7 hgz7))
    go_ret
    exact ⟨by first | rfl | (simp [errW_none, errW_some] <;> rfl) | (simp [*, errW_none, errW_some] <;> rfl), by repeat (first | (with_reducible first | exact HI0.out | apply IsS138.alloc | apply IsS138.drewN | apply IsS138.drew | apply IsS138.set_0 | apply IsS138.set_1 | apply IsS138.set_2 | apply IsS138.set_3 | apply IsS138.set_4) | exact HI0.out), by repeat (first | (with_reducible first | exact HB.out | apply below_alloc | apply pw_below_drewN | apply below_drew1 | refine below_set ?_ (IsS138.ge HI0.out)) | exact HB.out), by repeat (first | (with_reducible first | exact HK.out | apply KeepBut.set_ | apply keep_drewN | apply keep_drew | apply keep_alloc) | exact HK.out)⟩
  · rw [if_neg c3] at H
    have c3b0 : decide (s0_0 < a1) = false := decide_eq_false c3
    clear c3
    simp only [Option.some.injEq, Prod.mk.injEq] at H
    obtain ⟨rfl, rfl, rfl, rfl, rfl, rfl⟩ := H
    obtain ⟨HGz8, hgz8⟩ := HI0.out
    have hcz8_0 := cellS138_0 HGz8
    have hcz8_1 := cellS138_1 HGz8
    have hcz8_2 := cellS138_2 HGz8
    have hcz8_3 := cellS138_3 HGz8
    have hcz8_4 := cellS138_4 HGz8
    have hfz8_0 := blk_frozen HGz8 0
    have hfz8_1 := blk_frozen HGz8 1
    have hfz8_2 := blk_frozen HGz8 2
    have hfz8_3 := blk_frozen HGz8 3
    have hfz8_4 := blk_frozen HGz8 4
    clear HGz8 hgz8
    go_enter Tryd.func58, Tryd.ntmps58
    go_wp2
    go_ret
    exact ⟨by first | rfl | (simp [errW_none, errW_some] <;> rfl) | (simp [*, errW_none, errW_some] <;> rfl), by repeat (first | (with_reducible first | exact HI0.out | apply IsS138.alloc | apply IsS138.drewN | apply IsS138.drew | apply IsS138.set_0 | apply IsS138.set_1 | apply IsS138.set_2 | apply IsS138.set_3 | apply IsS138.set_4) | exact HI0.out), by repeat (first | (with_reducible first | exact HB.out | apply below_alloc | apply pw_below_drewN | apply below_drew1 | refine below_set ?_ (IsS138.ge HI0.out)) | exact HB.out), by repeat (first | (with_reducible first | exact HK.out | apply KeepBut.set_ | apply keep_drewN | apply keep_drew | apply keep_alloc) | exact HK.out)⟩
def clock_Clock_Set.f (s0_0 : Int) (s0_1 : Int) (s0_2 : Int) (s0_3 : Int) (s0_4 : Int) (a1 : Int) (a2 : Int) : Option (Int × Int × Int × Int × Int × Int) := if a1 > 4611686018427387904 then (some (1, s0_0, s0_1, s0_2, s0_3, s0_4)) else (if a2 > 4611686018427387904 then (some (1, s0_0, s0_1, s0_2, s0_3, s0_4)) else (some (0, a1, a2, 0, s0_3, s0_4)))
set_option maxHeartbeats 8000000 in
set_option maxRecDepth 100000 in
theorem clock_Clock_Set.calls (g : Nat) (s0_0 : Int) (s0_1 : Int) (s0_2 : Int) (s0_3 : Int) (s0_4 : Int) (a1 : Int) (a2 : Int) (r1 : Int) (r2 : Int) (r3 : Int) (r4 : Int) (r5 : Int) (r6 : Int) (w0 w : World) (hI : IsS138 w0 w g s0_0 s0_1 s0_2 s0_3 s0_4) (hB : Below w0.heap.size w0 w) (h : clock_Clock_Set.f s0_0 s0_1 s0_2 s0_3 s0_4 a1 a2 = some (r1, r2, r3, r4, r5, r6)) :
    Calls Tryd.prog 59 #[.pointer (some ⟨g, 0, none⟩), .int .u64 a1, .int .u64 a2] w fun e w' => e = .returned (.int .i64 r1) ∧ IsS138 w0 w' g r2 r3 r4 r5 r6 ∧ Below w0.heap.size w0 w' ∧ KeepBut w w' g none := by
  have HI0 := Aside0.mk hI
  have HK := Aside0.mk (KeepBut.refl w g none)
  have HL := Aside0.mk hB.size
  clear hI
  have HW0 := Aside0.mk hB.size
  have HB := Aside0.mk hB
  clear hB
  have H : (if a1 > 4611686018427387904 then (some (1, s0_0, s0_1, s0_2, s0_3, s0_4)) else (if a2 > 4611686018427387904 then (some (1, s0_0, s0_1, s0_2, s0_3, s0_4)) else (some (0, a1, a2, 0, s0_3, s0_4)))) = some (r1, r2, r3, r4, r5, r6) := h
  clear h
  by_cases c4 : a1 > 4611686018427387904
  · rw [if_pos c4] at H
    have c4b0 : decide (4611686018427387904 < a1) = true := decide_eq_true c4
    clear c4
    simp only [Option.some.injEq, Prod.mk.injEq] at H
    obtain ⟨rfl, rfl, rfl, rfl, rfl, rfl⟩ := H
    go_enter Tryd.func59, Tryd.ntmps59
    go_wp2
    go_ret
    exact ⟨by first | rfl | (simp [errW_none, errW_some] <;> rfl) | (simp [*, errW_none, errW_some] <;> rfl), by repeat (first | (with_reducible first | exact HI0.out | apply IsS138.alloc | apply IsS138.drewN | apply IsS138.drew | apply IsS138.set_0 | apply IsS138.set_1 | apply IsS138.set_2 | apply IsS138.set_3 | apply IsS138.set_4) | exact HI0.out), by repeat (first | (with_reducible first | exact HB.out | apply below_alloc | apply pw_below_drewN | apply below_drew1 | refine below_set ?_ (IsS138.ge HI0.out)) | exact HB.out), by repeat (first | (with_reducible first | exact HK.out | apply KeepBut.set_ | apply keep_drewN | apply keep_drew | apply keep_alloc) | exact HK.out)⟩
  · rw [if_neg c4] at H
    have c4b0 : decide (4611686018427387904 < a1) = false := decide_eq_false c4
    clear c4
    by_cases c5 : a2 > 4611686018427387904
    · rw [if_pos c5] at H
      have c5b0 : decide (4611686018427387904 < a2) = true := decide_eq_true c5
      clear c5
      simp only [Option.some.injEq, Prod.mk.injEq] at H
      obtain ⟨rfl, rfl, rfl, rfl, rfl, rfl⟩ := H
      go_enter Tryd.func59, Tryd.ntmps59
      go_wp2
      go_ret
      exact ⟨by first | rfl | (simp [errW_none, errW_some] <;> rfl) | (simp [*, errW_none, errW_some] <;> rfl), by repeat (first | (with_reducible first | exact HI0.out | apply IsS138.alloc | apply IsS138.drewN | apply IsS138.drew | apply IsS138.set_0 | apply IsS138.set_1 | apply IsS138.set_2 | apply IsS138.set_3 | apply IsS138.set_4) | exact HI0.out), by repeat (first | (with_reducible first | exact HB.out | apply below_alloc | apply pw_below_drewN | apply below_drew1 | refine below_set ?_ (IsS138.ge HI0.out)) | exact HB.out), by repeat (first | (with_reducible first | exact HK.out | apply KeepBut.set_ | apply keep_drewN | apply keep_drew | apply keep_alloc) | exact HK.out)⟩
    · rw [if_neg c5] at H
      have c5b0 : decide (4611686018427387904 < a2) = false := decide_eq_false c5
      clear c5
      simp only [Option.some.injEq, Prod.mk.injEq] at H
      obtain ⟨rfl, rfl, rfl, rfl, rfl, rfl⟩ := H
      obtain ⟨HGz6, hgz6⟩ := HI0.out
      have hcz6_0 := cellS138_0 HGz6
      have hcz6_1 := cellS138_1 HGz6
      have hcz6_2 := cellS138_2 HGz6
      have hcz6_3 := cellS138_3 HGz6
      have hcz6_4 := cellS138_4 HGz6
      have hfz6_0 := blk_frozen HGz6 0
      have hfz6_1 := blk_frozen HGz6 1
      have hfz6_2 := blk_frozen HGz6 2
      have hfz6_3 := blk_frozen HGz6 3
      have hfz6_4 := blk_frozen HGz6 4
      clear HGz6 hgz6
      go_enter Tryd.func59, Tryd.ntmps59
      go_wp2
      go_ret
      exact ⟨by first | rfl | (simp [errW_none, errW_some] <;> rfl) | (simp [*, errW_none, errW_some] <;> rfl), by repeat (first | (with_reducible first | exact HI0.out | apply IsS138.alloc | apply IsS138.drewN | apply IsS138.drew | apply IsS138.set_0 | apply IsS138.set_1 | apply IsS138.set_2 | apply IsS138.set_3 | apply IsS138.set_4) | exact HI0.out), by repeat (first | (with_reducible first | exact HB.out | apply below_alloc | apply pw_below_drewN | apply below_drew1 | refine below_set ?_ (IsS138.ge HI0.out)) | exact HB.out), by repeat (first | (with_reducible first | exact HK.out | apply KeepBut.set_ | apply keep_drewN | apply keep_drew | apply keep_alloc) | exact HK.out)⟩
def clock_Clock_Turn.j0 : Nat → Int → Bool → Int → Int → Int → Int → Int → Int → Int → Option (Int × Int × Int × Int × Int × Int)
  | 0, _, _, _, _, _, _, _, _, _ => none
  | k + 1, x1, x15, x1000, x1001, x1002, x1003, x1004, x112000, x112001 => if x15 = true then (some (1, x1000, x1001, x1002, x1003, x1004)) else ((clock_Clock_Go.f x1000 x1001 x1002 x1003 x1004 x1).bind fun bt113 => ((bits_Mul64.f bt113.2.2.2.1 x112001).bind fun bt119 => ((bits_Div64.f k bt119.1 bt119.2 bt113.2.2.2.2.2).bind fun bt121 => (some (0, bt113.2.1, bt113.2.2.1, bt121.1, x112000, x112001)))))
def clock_Clock_Turn.f (k : Nat) (s0_0 : Int) (s0_1 : Int) (s0_2 : Int) (s0_3 : Int) (s0_4 : Int) (a1 : Int) (a2_0 : Int) (a2_1 : Int) : Option (Int × Int × Int × Int × Int × Int) := (rate_May.f a2_0 a2_1).bind fun t112 => (if t112 = true then (clock_Clock_Turn.j0 k a1 (decide (a1 > 4611686018427387904)) s0_0 s0_1 s0_2 s0_3 s0_4 a2_0 a2_1) else (clock_Clock_Turn.j0 k a1 true s0_0 s0_1 s0_2 s0_3 s0_4 a2_0 a2_1))
theorem clock_Clock_Turn.mono_l : ∀ k, (∀ y0 y1 y2 y3 y4 y5 y6 y7 y8, LeO (clock_Clock_Turn.j0 k y0 y1 y2 y3 y4 y5 y6 y7 y8) (clock_Clock_Turn.j0 (k + 1) y0 y1 y2 y3 y4 y5 y6 y7 y8))
  | 0 => fun _ _ _ _ _ _ _ _ _ r h => by simp [clock_Clock_Turn.j0] at h
  | k + 1 => by
    have ih0 := clock_Clock_Turn.mono_l k
    · intro y0 y1 y2 y3 y4 y5 y6 y7 y8
      unfold clock_Clock_Turn.j0
      repeat' first
      | (with_reducible exact ih0 _ _ _ _ _ _ _ _ _)
      | (with_reducible exact bits_Div64.mono _ _ _ _)
      | (with_reducible exact LeO.refl _)
      | (with_reducible exact LeO.none _)
      | (with_reducible refine LeO.ite ?_ ?_)
      | (with_reducible refine LeO.bind ?_ (fun _ => ?_))
      | exact ih0 _ _ _ _ _ _ _ _ _
      | exact bits_Div64.mono _ _ _ _
      | exact LeO.none _
      | refine LeO.ite ?_ ?_
      | refine LeO.bind ?_ (fun _ => ?_)
theorem clock_Clock_Turn.mono : ∀ a0 a1 a2 a3 a4 a5 a6 a7 k, LeO (clock_Clock_Turn.f k a0 a1 a2 a3 a4 a5 a6 a7) (clock_Clock_Turn.f (k + 1) a0 a1 a2 a3 a4 a5 a6 a7) := by
  intro a0 a1 a2 a3 a4 a5 a6 a7 k
  have ih0 := clock_Clock_Turn.mono_l k
  unfold clock_Clock_Turn.f
  repeat' first
      | (with_reducible exact ih0 _ _ _ _ _ _ _ _ _)
      | (with_reducible exact bits_Div64.mono _ _ _ _)
      | (with_reducible exact LeO.refl _)
      | (with_reducible exact LeO.none _)
      | (with_reducible refine LeO.ite ?_ ?_)
      | (with_reducible refine LeO.bind ?_ (fun _ => ?_))
      | exact ih0 _ _ _ _ _ _ _ _ _
      | exact bits_Div64.mono _ _ _ _
      | exact LeO.none _
      | refine LeO.ite ?_ ?_
      | refine LeO.bind ?_ (fun _ => ?_)
set_option maxHeartbeats 8000000 in
set_option maxRecDepth 100000 in
theorem clock_Clock_Turn.calls (k : Nat) (g : Nat) (s0_0 : Int) (s0_1 : Int) (s0_2 : Int) (s0_3 : Int) (s0_4 : Int) (a1 : Int) (a2_0 : Int) (a2_1 : Int) (r1 : Int) (r2 : Int) (r3 : Int) (r4 : Int) (r5 : Int) (r6 : Int) (w0 w : World) (hI : IsS138 w0 w g s0_0 s0_1 s0_2 s0_3 s0_4) (hB : Below w0.heap.size w0 w) (h : clock_Clock_Turn.f k s0_0 s0_1 s0_2 s0_3 s0_4 a1 a2_0 a2_1 = some (r1, r2, r3, r4, r5, r6)) :
    Calls Tryd.prog 51 #[.pointer (some ⟨g, 0, none⟩), .int .u64 a1, .agg #[.int .u64 a2_0, .int .u64 a2_1]] w fun e w' => e = .returned (.int .i64 r1) ∧ IsS138 w0 w' g r2 r3 r4 r5 r6 ∧ Below w0.heap.size w0 w' ∧ KeepBut w w' g none := by
  have hu30 := Tryd.underlying30
  have HI0 := Aside0.mk hI
  have HK := Aside0.mk (KeepBut.refl w g none)
  have HL := Aside0.mk hB.size
  clear hI
  have HW0 := Aside0.mk hB.size
  have HB := Aside0.mk hB
  clear hB
  have H : ((rate_May.f a2_0 a2_1).bind fun t112 => (if t112 = true then (clock_Clock_Turn.j0 k a1 (decide (a1 > 4611686018427387904)) s0_0 s0_1 s0_2 s0_3 s0_4 a2_0 a2_1) else (clock_Clock_Turn.j0 k a1 true s0_0 s0_1 s0_2 s0_3 s0_4 a2_0 a2_1))) = some (r1, r2, r3, r4, r5, r6) := h
  clear h
  have HC4 := Aside0.mk H
  clear H
  go_enter Tryd.func51, Tryd.ntmps51
  go_upto_region 1 with (first | ((with_reducible refine gate_dst (N := 5) rfl ?_); refine box_event ?hg (N := 5) ?hd (cs := #[.int .u64 a2_0, .int .u64 a2_1]) (t := 30) ?hr ?_; (case hd => rfl); (case hg => rfl); (case hr => first | (go_simp; done) | (go_simp; rfl)); intro gb111 hg w5 hbox hb; have n0_ := Aside0.mk (IsS138.below (by repeat (first | (with_reducible first | exact HI0.out | apply IsS138.alloc | apply IsS138.drewN | apply IsS138.drew | apply IsS138.set_0 | apply IsS138.set_1 | apply IsS138.set_2 | apply IsS138.set_3 | apply IsS138.set_4) | exact HI0.out)) hb); have n1_ := Aside0.mk (KeepBut.trans (by repeat (first | (with_reducible first | exact HK.out | apply KeepBut.set_ | apply keep_drewN | apply keep_drew | apply keep_alloc) | exact HK.out)) (KeepBut.of_below hb g none) (.inl rfl)); have n2_ := Aside0.mk (below_step (by repeat (first | (with_reducible first | exact HB.out | apply below_alloc | apply pw_below_drewN | apply below_drew1 | refine below_set ?_ (IsS138.ge HI0.out)) | exact HB.out)) hb); have n3_ := Aside0.mk (hbox); have n4_ := Aside0.mk ((by rw [hg]; exact (keep_size (w := w) (g := g) (row := none) (by repeat (first | (with_reducible first | exact HK.out | apply KeepBut.set_ | apply keep_drewN | apply keep_drew | apply keep_alloc) | exact HK.out))) : w.heap.size ≤ gb111)); have n5_ := Aside0.mk ((Nat.le_trans HW0.out (by rw [hg]; exact (keep_size (w := w) (g := g) (row := none) (by repeat (first | (with_reducible first | exact HK.out | apply KeepBut.set_ | apply keep_drewN | apply keep_drew | apply keep_alloc) | exact HK.out))) : w.heap.size ≤ gb111) : w0.heap.size ≤ gb111)); have n6_ := Aside0.mk ((by rw [hg]; exact Nat.ne_of_lt (IsS138.lt (show IsS138 w0 _ g s0_0 s0_1 s0_2 s0_3 s0_4 from by repeat (first | (with_reducible first | exact HI0.out | apply IsS138.alloc | apply IsS138.drewN | apply IsS138.drew | apply IsS138.set_0 | apply IsS138.set_1 | apply IsS138.set_2 | apply IsS138.set_3 | apply IsS138.set_4) | exact HI0.out))) : g ≠ gb111)); have n7_ := Aside0.mk ((by rw [hg]; exact Nat.ne_of_gt (IsS138.lt (show IsS138 w0 _ g s0_0 s0_1 s0_2 s0_3 s0_4 from by repeat (first | (with_reducible first | exact HI0.out | apply IsS138.alloc | apply IsS138.drewN | apply IsS138.drew | apply IsS138.set_0 | apply IsS138.set_1 | apply IsS138.set_2 | apply IsS138.set_3 | apply IsS138.set_4) | exact HI0.out))) : gb111 ≠ g)); clear HI0; clear HK; clear HB; have HI0 := n0_; have HK := n1_; have HB := n2_; have BK111 := n3_; have GW111 := n4_; have GE111 := n5_; have NB0_111 := n6_; have NB111_0 := n7_; clear n0_ n1_ n2_ n3_ n4_ n5_ n6_ n7_; clear hb hbox hg))
  repeat (go_quiet (first | ((with_reducible refine gate_dst (N := 5) rfl ?_); refine box_event ?hg (N := 5) ?hd (cs := #[.int .u64 a2_0, .int .u64 a2_1]) (t := 30) ?hr ?_; (case hd => rfl); (case hg => rfl); (case hr => first | (go_simp; done) | (go_simp; rfl)); intro gb111 hg w5 hbox hb; have n0_ := Aside0.mk (IsS138.below (by repeat (first | (with_reducible first | exact HI0.out | apply IsS138.alloc | apply IsS138.drewN | apply IsS138.drew | apply IsS138.set_0 | apply IsS138.set_1 | apply IsS138.set_2 | apply IsS138.set_3 | apply IsS138.set_4) | exact HI0.out)) hb); have n1_ := Aside0.mk (KeepBut.trans (by repeat (first | (with_reducible first | exact HK.out | apply KeepBut.set_ | apply keep_drewN | apply keep_drew | apply keep_alloc) | exact HK.out)) (KeepBut.of_below hb g none) (.inl rfl)); have n2_ := Aside0.mk (below_step (by repeat (first | (with_reducible first | exact HB.out | apply below_alloc | apply pw_below_drewN | apply below_drew1 | refine below_set ?_ (IsS138.ge HI0.out)) | exact HB.out)) hb); have n3_ := Aside0.mk (hbox); have n4_ := Aside0.mk ((by rw [hg]; exact (keep_size (w := w) (g := g) (row := none) (by repeat (first | (with_reducible first | exact HK.out | apply KeepBut.set_ | apply keep_drewN | apply keep_drew | apply keep_alloc) | exact HK.out))) : w.heap.size ≤ gb111)); have n5_ := Aside0.mk ((Nat.le_trans HW0.out (by rw [hg]; exact (keep_size (w := w) (g := g) (row := none) (by repeat (first | (with_reducible first | exact HK.out | apply KeepBut.set_ | apply keep_drewN | apply keep_drew | apply keep_alloc) | exact HK.out))) : w.heap.size ≤ gb111) : w0.heap.size ≤ gb111)); have n6_ := Aside0.mk ((by rw [hg]; exact Nat.ne_of_lt (IsS138.lt (show IsS138 w0 _ g s0_0 s0_1 s0_2 s0_3 s0_4 from by repeat (first | (with_reducible first | exact HI0.out | apply IsS138.alloc | apply IsS138.drewN | apply IsS138.drew | apply IsS138.set_0 | apply IsS138.set_1 | apply IsS138.set_2 | apply IsS138.set_3 | apply IsS138.set_4) | exact HI0.out))) : g ≠ gb111)); have n7_ := Aside0.mk ((by rw [hg]; exact Nat.ne_of_gt (IsS138.lt (show IsS138 w0 _ g s0_0 s0_1 s0_2 s0_3 s0_4 from by repeat (first | (with_reducible first | exact HI0.out | apply IsS138.alloc | apply IsS138.drewN | apply IsS138.drew | apply IsS138.set_0 | apply IsS138.set_1 | apply IsS138.set_2 | apply IsS138.set_3 | apply IsS138.set_4) | exact HI0.out))) : gb111 ≠ g)); clear HI0; clear HK; clear HB; have HI0 := n0_; have HK := n1_; have HB := n2_; have BK111 := n3_; have GW111 := n4_; have GE111 := n5_; have NB0_111 := n6_; have NB111_0 := n7_; clear n0_ n1_ n2_ n3_ n4_ n5_ n6_ n7_; clear hb hbox hg)); go_upto_region 1 with (first | ((with_reducible refine gate_dst (N := 5) rfl ?_); refine box_event ?hg (N := 5) ?hd (cs := #[.int .u64 a2_0, .int .u64 a2_1]) (t := 30) ?hr ?_; (case hd => rfl); (case hg => rfl); (case hr => first | (go_simp; done) | (go_simp; rfl)); intro gb111 hg w5 hbox hb; have n0_ := Aside0.mk (IsS138.below (by repeat (first | (with_reducible first | exact HI0.out | apply IsS138.alloc | apply IsS138.drewN | apply IsS138.drew | apply IsS138.set_0 | apply IsS138.set_1 | apply IsS138.set_2 | apply IsS138.set_3 | apply IsS138.set_4) | exact HI0.out)) hb); have n1_ := Aside0.mk (KeepBut.trans (by repeat (first | (with_reducible first | exact HK.out | apply KeepBut.set_ | apply keep_drewN | apply keep_drew | apply keep_alloc) | exact HK.out)) (KeepBut.of_below hb g none) (.inl rfl)); have n2_ := Aside0.mk (below_step (by repeat (first | (with_reducible first | exact HB.out | apply below_alloc | apply pw_below_drewN | apply below_drew1 | refine below_set ?_ (IsS138.ge HI0.out)) | exact HB.out)) hb); have n3_ := Aside0.mk (hbox); have n4_ := Aside0.mk ((by rw [hg]; exact (keep_size (w := w) (g := g) (row := none) (by repeat (first | (with_reducible first | exact HK.out | apply KeepBut.set_ | apply keep_drewN | apply keep_drew | apply keep_alloc) | exact HK.out))) : w.heap.size ≤ gb111)); have n5_ := Aside0.mk ((Nat.le_trans HW0.out (by rw [hg]; exact (keep_size (w := w) (g := g) (row := none) (by repeat (first | (with_reducible first | exact HK.out | apply KeepBut.set_ | apply keep_drewN | apply keep_drew | apply keep_alloc) | exact HK.out))) : w.heap.size ≤ gb111) : w0.heap.size ≤ gb111)); have n6_ := Aside0.mk ((by rw [hg]; exact Nat.ne_of_lt (IsS138.lt (show IsS138 w0 _ g s0_0 s0_1 s0_2 s0_3 s0_4 from by repeat (first | (with_reducible first | exact HI0.out | apply IsS138.alloc | apply IsS138.drewN | apply IsS138.drew | apply IsS138.set_0 | apply IsS138.set_1 | apply IsS138.set_2 | apply IsS138.set_3 | apply IsS138.set_4) | exact HI0.out))) : g ≠ gb111)); have n7_ := Aside0.mk ((by rw [hg]; exact Nat.ne_of_gt (IsS138.lt (show IsS138 w0 _ g s0_0 s0_1 s0_2 s0_3 s0_4 from by repeat (first | (with_reducible first | exact HI0.out | apply IsS138.alloc | apply IsS138.drewN | apply IsS138.drew | apply IsS138.set_0 | apply IsS138.set_1 | apply IsS138.set_2 | apply IsS138.set_3 | apply IsS138.set_4) | exact HI0.out))) : gb111 ≠ g)); clear HI0; clear HK; clear HB; have HI0 := n0_; have HK := n1_; have HB := n2_; have BK111 := n3_; have GW111 := n4_; have GE111 := n5_; have NB0_111 := n6_; have NB111_0 := n7_; clear n0_ n1_ n2_ n3_ n4_ n5_ n6_ n7_; clear hb hbox hg)))
  (try simp only [Act.put, List.setIfInBounds_toArray, List.set_cons_zero, List.set_cons_succ])
  go_cut [15] (fun v15 wc => ∃ (kq : Nat) (x15_3 : Bool), v15 = .bool x15_3 ∧ Aside0 (clock_Clock_Turn.j0 kq a1 x15_3 s0_0 s0_1 s0_2 s0_3 s0_4 a2_0 a2_1 = some (r1, r2, r3, r4, r5, r6)) ∧ Aside0 (kq ≤ k) ∧ Aside0 (wc.heap[gb111]? = some (.cells #[.int .u64 a2_0, .int .u64 a2_1] 30 (0, 0))) ∧ Aside0 (IsS138 w0 wc g s0_0 s0_1 s0_2 s0_3 s0_4) ∧ Aside0 (KeepBut w wc g none) ∧ Aside0 (Below w0.heap.size w0 wc))
  case first =>
    have H := HC4.out
    clear HC4
    replace H := Option.bind_eq_some_iff.mp H
    obtain ⟨t112, A60, H⟩ := H
    replace H : (if t112 = true then (clock_Clock_Turn.j0 k a1 (decide (a1 > 4611686018427387904)) s0_0 s0_1 s0_2 s0_3 s0_4 a2_0 a2_1) else (clock_Clock_Turn.j0 k a1 true s0_0 s0_1 s0_2 s0_3 s0_4 a2_0 a2_1)) = some (r1, r2, r3, r4, r5, r6) := H
    have A6 := Aside0.mk A60
    clear A60
    by_cases c7 : t112 = true
    · subst c7
      have H1 : (clock_Clock_Turn.j0 k a1 (decide (a1 > 4611686018427387904)) s0_0 s0_1 s0_2 s0_3 s0_4 a2_0 a2_1) = some (r1, r2, r3, r4, r5, r6) := by rw [if_pos rfl] at H; exact H
      clear H
      have H := H1
      clear H1
      have H' := Aside0.mk H
      clear H
      have hnb8 := NB111_0.out
      have hnc8 := NB0_111.out
      have hcz9_0 : w5.cell? ⟨gb111, 0, none⟩ = some (.int .u64 a2_0) := (blk_cell BK111.out 0).trans rfl
      have hcz9_1 : w5.cell? ⟨gb111, 1, none⟩ = some (.int .u64 a2_1) := (blk_cell BK111.out 1).trans rfl
      have hfz9_0 := blk_frozen BK111.out 0
      have hfz9_1 := blk_frozen BK111.out 1
      go_wp2_with (first | (go_at_call 60; (with_reducible refine (rate_May.calls a2_0 a2_1 true _ A6.out).mono ?_); rintro e w10 ⟨rfl, hb⟩; have n0_ := Aside0.mk (IsS138.below (by repeat (first | (with_reducible first | exact HI0.out | apply IsS138.alloc | apply IsS138.drewN | apply IsS138.drew | apply IsS138.set_0 | apply IsS138.set_1 | apply IsS138.set_2 | apply IsS138.set_3 | apply IsS138.set_4 | refine IsS138.far ?_ NB0_111.out _) | exact HI0.out)) hb); have n1_ := Aside0.mk (blk_below (g := gb111) (o := .cells #[.int .u64 a2_0, .int .u64 a2_1] 30 (0, 0)) (by (with_reducible repeat (first | refine blk_drewN ?_ _ | refine blk_drew ?_ | refine blk_alloc ?_ _)); exact BK111.out) hb); have n2_ := Aside0.mk (KeepBut.trans (by repeat (first | (with_reducible first | exact HK.out | apply KeepBut.set_ | apply keep_drewN | apply keep_drew | apply keep_alloc | refine keep_far ?_ GW111.out _) | exact HK.out)) (KeepBut.of_below hb g none) (.inl rfl)); have n3_ := Aside0.mk (below_step (by repeat (first | (with_reducible first | exact HB.out | apply below_alloc | apply pw_below_drewN | apply below_drew1 | refine below_set ?_ (IsS138.ge HI0.out) | refine below_set ?_ GE111.out) | exact HB.out)) hb); clear HI0; clear BK111; clear HK; clear HB; have HI0 := n0_; have BK111 := n1_; have HK := n2_; have HB := n3_; clear n0_ n1_ n2_ n3_; (try clear hb); (try clear hb2); (try clear hk); (try clear hi)))
      repeat (go_quiet (first | (go_at_call 60; (with_reducible refine (rate_May.calls a2_0 a2_1 true _ A6.out).mono ?_); rintro e w10 ⟨rfl, hb⟩; have n0_ := Aside0.mk (IsS138.below (by repeat (first | (with_reducible first | exact HI0.out | apply IsS138.alloc | apply IsS138.drewN | apply IsS138.drew | apply IsS138.set_0 | apply IsS138.set_1 | apply IsS138.set_2 | apply IsS138.set_3 | apply IsS138.set_4 | refine IsS138.far ?_ NB0_111.out _) | exact HI0.out)) hb); have n1_ := Aside0.mk (blk_below (g := gb111) (o := .cells #[.int .u64 a2_0, .int .u64 a2_1] 30 (0, 0)) (by (with_reducible repeat (first | refine blk_drewN ?_ _ | refine blk_drew ?_ | refine blk_alloc ?_ _)); exact BK111.out) hb); have n2_ := Aside0.mk (KeepBut.trans (by repeat (first | (with_reducible first | exact HK.out | apply KeepBut.set_ | apply keep_drewN | apply keep_drew | apply keep_alloc | refine keep_far ?_ GW111.out _) | exact HK.out)) (KeepBut.of_below hb g none) (.inl rfl)); have n3_ := Aside0.mk (below_step (by repeat (first | (with_reducible first | exact HB.out | apply below_alloc | apply pw_below_drewN | apply below_drew1 | refine below_set ?_ (IsS138.ge HI0.out) | refine below_set ?_ GE111.out) | exact HB.out)) hb); clear HI0; clear BK111; clear HK; clear HB; have HI0 := n0_; have BK111 := n1_; have HK := n2_; have HB := n3_; clear n0_ n1_ n2_ n3_; (try clear hb); (try clear hb2); (try clear hk); (try clear hi))); try go_wp2_with (first | (go_at_call 60; (with_reducible refine (rate_May.calls a2_0 a2_1 true _ A6.out).mono ?_); rintro e w10 ⟨rfl, hb⟩; have n0_ := Aside0.mk (IsS138.below (by repeat (first | (with_reducible first | exact HI0.out | apply IsS138.alloc | apply IsS138.drewN | apply IsS138.drew | apply IsS138.set_0 | apply IsS138.set_1 | apply IsS138.set_2 | apply IsS138.set_3 | apply IsS138.set_4 | refine IsS138.far ?_ NB0_111.out _) | exact HI0.out)) hb); have n1_ := Aside0.mk (blk_below (g := gb111) (o := .cells #[.int .u64 a2_0, .int .u64 a2_1] 30 (0, 0)) (by (with_reducible repeat (first | refine blk_drewN ?_ _ | refine blk_drew ?_ | refine blk_alloc ?_ _)); exact BK111.out) hb); have n2_ := Aside0.mk (KeepBut.trans (by repeat (first | (with_reducible first | exact HK.out | apply KeepBut.set_ | apply keep_drewN | apply keep_drew | apply keep_alloc | refine keep_far ?_ GW111.out _) | exact HK.out)) (KeepBut.of_below hb g none) (.inl rfl)); have n3_ := Aside0.mk (below_step (by repeat (first | (with_reducible first | exact HB.out | apply below_alloc | apply pw_below_drewN | apply below_drew1 | refine below_set ?_ (IsS138.ge HI0.out) | refine below_set ?_ GE111.out) | exact HB.out)) hb); clear HI0; clear BK111; clear HK; clear HB; have HI0 := n0_; have BK111 := n1_; have HK := n2_; have HB := n3_; clear n0_ n1_ n2_ n3_; (try clear hb); (try clear hb2); (try clear hk); (try clear hi))))
      go_meet
      case rel => exact ⟨_, (decide (a1 > 4611686018427387904)), (by first | rfl | (simp; done) | (simp [*]; done)), H', ⟨by first | omega | exact Nat.le_refl _⟩, ⟨by (with_reducible repeat (first | refine blk_drewN ?_ _ | refine blk_drew ?_ | refine blk_alloc ?_ _)); exact BK111.out⟩, ⟨by repeat (first | (with_reducible first | exact HI0.out | apply IsS138.alloc | apply IsS138.drewN | apply IsS138.drew | apply IsS138.set_0 | apply IsS138.set_1 | apply IsS138.set_2 | apply IsS138.set_3 | apply IsS138.set_4 | refine IsS138.far ?_ NB0_111.out _) | exact HI0.out)⟩, ⟨by repeat (first | (with_reducible first | exact HK.out | apply KeepBut.set_ | apply keep_drewN | apply keep_drew | apply keep_alloc | refine keep_far ?_ GW111.out _) | exact HK.out)⟩, ⟨by repeat (first | (with_reducible first | exact HB.out | apply below_alloc | apply pw_below_drewN | apply below_drew1 | refine below_set ?_ (IsS138.ge HI0.out) | refine below_set ?_ GE111.out) | exact HB.out)⟩⟩
    · replace c7 := Bool.eq_false_iff.mpr c7
      subst c7
      have H1 : (clock_Clock_Turn.j0 k a1 true s0_0 s0_1 s0_2 s0_3 s0_4 a2_0 a2_1) = some (r1, r2, r3, r4, r5, r6) := by rw [if_neg (show ¬ (false = true) by decide)] at H; exact H
      clear H
      have H := H1
      clear H1
      have H' := Aside0.mk H
      clear H
      have hnb11 := NB111_0.out
      have hnc11 := NB0_111.out
      have hcz12_0 : w5.cell? ⟨gb111, 0, none⟩ = some (.int .u64 a2_0) := (blk_cell BK111.out 0).trans rfl
      have hcz12_1 : w5.cell? ⟨gb111, 1, none⟩ = some (.int .u64 a2_1) := (blk_cell BK111.out 1).trans rfl
      have hfz12_0 := blk_frozen BK111.out 0
      have hfz12_1 := blk_frozen BK111.out 1
      go_wp2_with (first | (go_at_call 60; (with_reducible refine (rate_May.calls a2_0 a2_1 false _ A6.out).mono ?_); rintro e w13 ⟨rfl, hb⟩; have n0_ := Aside0.mk (IsS138.below (by repeat (first | (with_reducible first | exact HI0.out | apply IsS138.alloc | apply IsS138.drewN | apply IsS138.drew | apply IsS138.set_0 | apply IsS138.set_1 | apply IsS138.set_2 | apply IsS138.set_3 | apply IsS138.set_4 | refine IsS138.far ?_ NB0_111.out _) | exact HI0.out)) hb); have n1_ := Aside0.mk (blk_below (g := gb111) (o := .cells #[.int .u64 a2_0, .int .u64 a2_1] 30 (0, 0)) (by (with_reducible repeat (first | refine blk_drewN ?_ _ | refine blk_drew ?_ | refine blk_alloc ?_ _)); exact BK111.out) hb); have n2_ := Aside0.mk (KeepBut.trans (by repeat (first | (with_reducible first | exact HK.out | apply KeepBut.set_ | apply keep_drewN | apply keep_drew | apply keep_alloc | refine keep_far ?_ GW111.out _) | exact HK.out)) (KeepBut.of_below hb g none) (.inl rfl)); have n3_ := Aside0.mk (below_step (by repeat (first | (with_reducible first | exact HB.out | apply below_alloc | apply pw_below_drewN | apply below_drew1 | refine below_set ?_ (IsS138.ge HI0.out) | refine below_set ?_ GE111.out) | exact HB.out)) hb); clear HI0; clear BK111; clear HK; clear HB; have HI0 := n0_; have BK111 := n1_; have HK := n2_; have HB := n3_; clear n0_ n1_ n2_ n3_; (try clear hb); (try clear hb2); (try clear hk); (try clear hi)))
      repeat (go_quiet (first | (go_at_call 60; (with_reducible refine (rate_May.calls a2_0 a2_1 false _ A6.out).mono ?_); rintro e w13 ⟨rfl, hb⟩; have n0_ := Aside0.mk (IsS138.below (by repeat (first | (with_reducible first | exact HI0.out | apply IsS138.alloc | apply IsS138.drewN | apply IsS138.drew | apply IsS138.set_0 | apply IsS138.set_1 | apply IsS138.set_2 | apply IsS138.set_3 | apply IsS138.set_4 | refine IsS138.far ?_ NB0_111.out _) | exact HI0.out)) hb); have n1_ := Aside0.mk (blk_below (g := gb111) (o := .cells #[.int .u64 a2_0, .int .u64 a2_1] 30 (0, 0)) (by (with_reducible repeat (first | refine blk_drewN ?_ _ | refine blk_drew ?_ | refine blk_alloc ?_ _)); exact BK111.out) hb); have n2_ := Aside0.mk (KeepBut.trans (by repeat (first | (with_reducible first | exact HK.out | apply KeepBut.set_ | apply keep_drewN | apply keep_drew | apply keep_alloc | refine keep_far ?_ GW111.out _) | exact HK.out)) (KeepBut.of_below hb g none) (.inl rfl)); have n3_ := Aside0.mk (below_step (by repeat (first | (with_reducible first | exact HB.out | apply below_alloc | apply pw_below_drewN | apply below_drew1 | refine below_set ?_ (IsS138.ge HI0.out) | refine below_set ?_ GE111.out) | exact HB.out)) hb); clear HI0; clear BK111; clear HK; clear HB; have HI0 := n0_; have BK111 := n1_; have HK := n2_; have HB := n3_; clear n0_ n1_ n2_ n3_; (try clear hb); (try clear hb2); (try clear hk); (try clear hi))); try go_wp2_with (first | (go_at_call 60; (with_reducible refine (rate_May.calls a2_0 a2_1 false _ A6.out).mono ?_); rintro e w13 ⟨rfl, hb⟩; have n0_ := Aside0.mk (IsS138.below (by repeat (first | (with_reducible first | exact HI0.out | apply IsS138.alloc | apply IsS138.drewN | apply IsS138.drew | apply IsS138.set_0 | apply IsS138.set_1 | apply IsS138.set_2 | apply IsS138.set_3 | apply IsS138.set_4 | refine IsS138.far ?_ NB0_111.out _) | exact HI0.out)) hb); have n1_ := Aside0.mk (blk_below (g := gb111) (o := .cells #[.int .u64 a2_0, .int .u64 a2_1] 30 (0, 0)) (by (with_reducible repeat (first | refine blk_drewN ?_ _ | refine blk_drew ?_ | refine blk_alloc ?_ _)); exact BK111.out) hb); have n2_ := Aside0.mk (KeepBut.trans (by repeat (first | (with_reducible first | exact HK.out | apply KeepBut.set_ | apply keep_drewN | apply keep_drew | apply keep_alloc | refine keep_far ?_ GW111.out _) | exact HK.out)) (KeepBut.of_below hb g none) (.inl rfl)); have n3_ := Aside0.mk (below_step (by repeat (first | (with_reducible first | exact HB.out | apply below_alloc | apply pw_below_drewN | apply below_drew1 | refine below_set ?_ (IsS138.ge HI0.out) | refine below_set ?_ GE111.out) | exact HB.out)) hb); clear HI0; clear BK111; clear HK; clear HB; have HI0 := n0_; have BK111 := n1_; have HK := n2_; have HB := n3_; clear n0_ n1_ n2_ n3_; (try clear hb); (try clear hb2); (try clear hk); (try clear hi))))
      go_meet
      case rel => exact ⟨_, (true), (by first | rfl | (simp; done) | (simp [*]; done)), H', ⟨by first | omega | exact Nat.le_refl _⟩, ⟨by (with_reducible repeat (first | refine blk_drewN ?_ _ | refine blk_drew ?_ | refine blk_alloc ?_ _)); exact BK111.out⟩, ⟨by repeat (first | (with_reducible first | exact HI0.out | apply IsS138.alloc | apply IsS138.drewN | apply IsS138.drew | apply IsS138.set_0 | apply IsS138.set_1 | apply IsS138.set_2 | apply IsS138.set_3 | apply IsS138.set_4 | refine IsS138.far ?_ NB0_111.out _) | exact HI0.out)⟩, ⟨by repeat (first | (with_reducible first | exact HK.out | apply KeepBut.set_ | apply keep_drewN | apply keep_drew | apply keep_alloc | refine keep_far ?_ GW111.out _) | exact HK.out)⟩, ⟨by repeat (first | (with_reducible first | exact HB.out | apply below_alloc | apply pw_below_drewN | apply below_drew1 | refine below_set ?_ (IsS138.ge HI0.out) | refine below_set ?_ GE111.out) | exact HB.out)⟩⟩
  case rest =>
    clear HC4
    try clear c1
    try clear p2
    try clear c5
    try clear c7
    try clear c8
    try clear c11
    try clear hcz12_0
    try clear hcz12_1
    try clear hcz9_0
    try clear hcz9_1
    try clear hfz12_0
    try clear hfz12_1
    try clear hfz9_0
    try clear hfz9_1
    obtain ⟨kq, x15_3, rfl, HA, HJ3, BK111, HI0, HK, HB⟩ := hcut
    cases kq with
    | zero => exact absurd HA.out (by simp [clock_Clock_Turn.j0])
    | succ kj3 =>
      have H := HA.out
      clear HA
      simp only [clock_Clock_Turn.j0] at H
      by_cases c14 : x15_3 = true
      · subst c14
        have H1 : (some (1, s0_0, s0_1, s0_2, s0_3, s0_4)) = some (r1, r2, r3, r4, r5, r6) := by rw [if_pos rfl] at H; exact H
        clear H
        have H := H1
        clear H1
        simp only [Option.some.injEq, Prod.mk.injEq] at H
        obtain ⟨rfl, rfl, rfl, rfl, rfl, rfl⟩ := H
        go_wp2
        repeat (go_quiet (fail); try go_wp2)
        go_ret
        exact ⟨by first | rfl | (simp [errW_none, errW_some] <;> rfl) | (simp [*, errW_none, errW_some] <;> rfl), by repeat (first | (with_reducible first | exact HI0.out | apply IsS138.alloc | apply IsS138.drewN | apply IsS138.drew | apply IsS138.set_0 | apply IsS138.set_1 | apply IsS138.set_2 | apply IsS138.set_3 | apply IsS138.set_4 | refine IsS138.far ?_ NB0_111.out _) | exact HI0.out), by repeat (first | (with_reducible first | exact HB.out | apply below_alloc | apply pw_below_drewN | apply below_drew1 | refine below_set ?_ (IsS138.ge HI0.out) | refine below_set ?_ GE111.out) | exact HB.out), by repeat (first | (with_reducible first | exact HK.out | apply KeepBut.set_ | apply keep_drewN | apply keep_drew | apply keep_alloc | refine keep_far ?_ GW111.out _) | exact HK.out)⟩
      · replace c14 := Bool.eq_false_iff.mpr c14
        subst c14
        have H1 : ((clock_Clock_Go.f s0_0 s0_1 s0_2 s0_3 s0_4 a1).bind fun bt113 => ((bits_Mul64.f bt113.2.2.2.1 a2_1).bind fun bt119 => ((bits_Div64.f kj3 bt119.1 bt119.2 bt113.2.2.2.2.2).bind fun bt121 => (some (0, bt113.2.1, bt113.2.2.1, bt121.1, a2_0, a2_1))))) = some (r1, r2, r3, r4, r5, r6) := by rw [if_neg (show ¬ (false = true) by decide)] at H; exact H
        clear H
        have H := H1
        clear H1
        replace H := Option.bind_eq_some_iff.mp H
        obtain ⟨⟨t113, t114, t115, t116, t117, t118⟩, A150, H⟩ := H
        replace H : ((bits_Mul64.f t116 a2_1).bind fun bt119 => ((bits_Div64.f kj3 bt119.1 bt119.2 t118).bind fun bt121 => (some (0, t114, t115, bt121.1, a2_0, a2_1)))) = some (r1, r2, r3, r4, r5, r6) := H
        have A15 := Aside0.mk A150
        clear A150
        replace H := Option.bind_eq_some_iff.mp H
        obtain ⟨⟨t119, t120⟩, A160, H⟩ := H
        replace H : ((bits_Div64.f kj3 t119 t120 t118).bind fun bt121 => (some (0, t114, t115, bt121.1, a2_0, a2_1))) = some (r1, r2, r3, r4, r5, r6) := H
        have A16 := Aside0.mk A160
        clear A160
        replace H := Option.bind_eq_some_iff.mp H
        obtain ⟨⟨t121, t122⟩, A170, H⟩ := H
        replace H : (some (0, t114, t115, t121, a2_0, a2_1)) = some (r1, r2, r3, r4, r5, r6) := H
        have A17 := Aside0.mk A170
        clear A170
        simp only [Option.some.injEq, Prod.mk.injEq] at H
        obtain ⟨rfl, rfl, rfl, rfl, rfl, rfl⟩ := H
        go_wp2_with (first | (go_at_call 58; (with_reducible refine (clock_Clock_Go.calls g s0_0 s0_1 s0_2 s0_3 s0_4 a1 t113 t114 t115 t116 t117 t118 w0 _ ?side1 ?side2 A15.out).mono ?_); (case side1 => repeat (first | (with_reducible first | exact HI0.out | apply IsS138.alloc | apply IsS138.drewN | apply IsS138.drew | apply IsS138.set_0 | apply IsS138.set_1 | apply IsS138.set_2 | apply IsS138.set_3 | apply IsS138.set_4 | refine IsS138.far ?_ NB0_111.out _) | exact HI0.out)); (case side2 => repeat (first | (with_reducible first | exact HB.out | apply below_alloc | apply pw_below_drewN | apply below_drew1 | refine below_set ?_ (IsS138.ge HI0.out) | refine below_set ?_ GE111.out) | exact HB.out)); rintro e w18 ⟨rfl, hi, hb, hk⟩; have n0_ := Aside0.mk (KeepBut.blk hk (g' := gb111) (o := .cells #[.int .u64 a2_0, .int .u64 a2_1] 30 (0, 0)) (by (with_reducible repeat (first | refine blk_drewN ?_ _ | refine blk_drew ?_ | refine blk_alloc ?_ _)); exact BK111.out) NB111_0.out (by simp)); have n1_ := Aside0.mk (KeepBut.trans (by repeat (first | (with_reducible first | exact HK.out | apply KeepBut.set_ | apply keep_drewN | apply keep_drew | apply keep_alloc | refine keep_far ?_ GW111.out _) | exact HK.out)) hk (.inl rfl)); have n2_ := Aside0.mk (hb); have n3_ := Aside0.mk (hi); clear BK111; clear HK; clear HB; clear HI0; have BK111 := n0_; have HK := n1_; have HB := n2_; have HI0 := n3_; clear n0_ n1_ n2_ n3_; (try clear hb); (try clear hb2); (try clear hk); (try clear hi); obtain ⟨HGz19, hgz19⟩ := HI0.out; have hcz19_0 := cellS138_0 HGz19; have hcz19_1 := cellS138_1 HGz19; have hcz19_2 := cellS138_2 HGz19; have hcz19_3 := cellS138_3 HGz19; have hcz19_4 := cellS138_4 HGz19; have hfz19_0 := blk_frozen HGz19 0; have hfz19_1 := blk_frozen HGz19 1; have hfz19_2 := blk_frozen HGz19 2; have hfz19_3 := blk_frozen HGz19 3; have hfz19_4 := blk_frozen HGz19 4; clear HGz19 hgz19; have hnb20 := NB111_0.out; have hnc20 := NB0_111.out; have hcz21_0 : w18.cell? ⟨gb111, 0, none⟩ = some (.int .u64 a2_0) := (blk_cell BK111.out 0).trans rfl; have hcz21_1 : w18.cell? ⟨gb111, 1, none⟩ = some (.int .u64 a2_1) := (blk_cell BK111.out 1).trans rfl; have hfz21_0 := blk_frozen BK111.out 0; have hfz21_1 := blk_frozen BK111.out 1) | (go_at_call 61; (with_reducible refine (bits_Mul64.calls t116 a2_1 t119 t120 _ A16.out).mono ?_); rintro e w' ⟨rfl, ⟨nd, rfl⟩⟩; (try first | exact ⟨rfl, _, World.drewN_drewN _ _ _⟩ | exact ⟨rfl, _, Eq.trans (World.drewN_drewN _ _ _) (congrArg (World.drewN _) (Nat.add_assoc _ _ _))⟩)) | (go_at_call 63; (with_reducible refine (bits_Div64.calls kj3 t119 t120 t118 t121 t122 _ A17.out).mono ?_); rintro e w' ⟨rfl, ⟨nd, rfl⟩⟩; (try first | exact ⟨rfl, _, World.drewN_drewN _ _ _⟩ | exact ⟨rfl, _, Eq.trans (World.drewN_drewN _ _ _) (congrArg (World.drewN _) (Nat.add_assoc _ _ _))⟩)))
        repeat (go_quiet (first | (go_at_call 58; (with_reducible refine (clock_Clock_Go.calls g s0_0 s0_1 s0_2 s0_3 s0_4 a1 t113 t114 t115 t116 t117 t118 w0 _ ?side1 ?side2 A15.out).mono ?_); (case side1 => repeat (first | (with_reducible first | exact HI0.out | apply IsS138.alloc | apply IsS138.drewN | apply IsS138.drew | apply IsS138.set_0 | apply IsS138.set_1 | apply IsS138.set_2 | apply IsS138.set_3 | apply IsS138.set_4 | refine IsS138.far ?_ NB0_111.out _) | exact HI0.out)); (case side2 => repeat (first | (with_reducible first | exact HB.out | apply below_alloc | apply pw_below_drewN | apply below_drew1 | refine below_set ?_ (IsS138.ge HI0.out) | refine below_set ?_ GE111.out) | exact HB.out)); rintro e w18 ⟨rfl, hi, hb, hk⟩; have n0_ := Aside0.mk (KeepBut.blk hk (g' := gb111) (o := .cells #[.int .u64 a2_0, .int .u64 a2_1] 30 (0, 0)) (by (with_reducible repeat (first | refine blk_drewN ?_ _ | refine blk_drew ?_ | refine blk_alloc ?_ _)); exact BK111.out) NB111_0.out (by simp)); have n1_ := Aside0.mk (KeepBut.trans (by repeat (first | (with_reducible first | exact HK.out | apply KeepBut.set_ | apply keep_drewN | apply keep_drew | apply keep_alloc | refine keep_far ?_ GW111.out _) | exact HK.out)) hk (.inl rfl)); have n2_ := Aside0.mk (hb); have n3_ := Aside0.mk (hi); clear BK111; clear HK; clear HB; clear HI0; have BK111 := n0_; have HK := n1_; have HB := n2_; have HI0 := n3_; clear n0_ n1_ n2_ n3_; (try clear hb); (try clear hb2); (try clear hk); (try clear hi); obtain ⟨HGz19, hgz19⟩ := HI0.out; have hcz19_0 := cellS138_0 HGz19; have hcz19_1 := cellS138_1 HGz19; have hcz19_2 := cellS138_2 HGz19; have hcz19_3 := cellS138_3 HGz19; have hcz19_4 := cellS138_4 HGz19; have hfz19_0 := blk_frozen HGz19 0; have hfz19_1 := blk_frozen HGz19 1; have hfz19_2 := blk_frozen HGz19 2; have hfz19_3 := blk_frozen HGz19 3; have hfz19_4 := blk_frozen HGz19 4; clear HGz19 hgz19; have hnb20 := NB111_0.out; have hnc20 := NB0_111.out; have hcz21_0 : w18.cell? ⟨gb111, 0, none⟩ = some (.int .u64 a2_0) := (blk_cell BK111.out 0).trans rfl; have hcz21_1 : w18.cell? ⟨gb111, 1, none⟩ = some (.int .u64 a2_1) := (blk_cell BK111.out 1).trans rfl; have hfz21_0 := blk_frozen BK111.out 0; have hfz21_1 := blk_frozen BK111.out 1) | (go_at_call 61; (with_reducible refine (bits_Mul64.calls t116 a2_1 t119 t120 _ A16.out).mono ?_); rintro e w' ⟨rfl, ⟨nd, rfl⟩⟩; (try first | exact ⟨rfl, _, World.drewN_drewN _ _ _⟩ | exact ⟨rfl, _, Eq.trans (World.drewN_drewN _ _ _) (congrArg (World.drewN _) (Nat.add_assoc _ _ _))⟩)) | (go_at_call 63; (with_reducible refine (bits_Div64.calls kj3 t119 t120 t118 t121 t122 _ A17.out).mono ?_); rintro e w' ⟨rfl, ⟨nd, rfl⟩⟩; (try first | exact ⟨rfl, _, World.drewN_drewN _ _ _⟩ | exact ⟨rfl, _, Eq.trans (World.drewN_drewN _ _ _) (congrArg (World.drewN _) (Nat.add_assoc _ _ _))⟩))); try go_wp2_with (first | (go_at_call 58; (with_reducible refine (clock_Clock_Go.calls g s0_0 s0_1 s0_2 s0_3 s0_4 a1 t113 t114 t115 t116 t117 t118 w0 _ ?side1 ?side2 A15.out).mono ?_); (case side1 => repeat (first | (with_reducible first | exact HI0.out | apply IsS138.alloc | apply IsS138.drewN | apply IsS138.drew | apply IsS138.set_0 | apply IsS138.set_1 | apply IsS138.set_2 | apply IsS138.set_3 | apply IsS138.set_4 | refine IsS138.far ?_ NB0_111.out _) | exact HI0.out)); (case side2 => repeat (first | (with_reducible first | exact HB.out | apply below_alloc | apply pw_below_drewN | apply below_drew1 | refine below_set ?_ (IsS138.ge HI0.out) | refine below_set ?_ GE111.out) | exact HB.out)); rintro e w18 ⟨rfl, hi, hb, hk⟩; have n0_ := Aside0.mk (KeepBut.blk hk (g' := gb111) (o := .cells #[.int .u64 a2_0, .int .u64 a2_1] 30 (0, 0)) (by (with_reducible repeat (first | refine blk_drewN ?_ _ | refine blk_drew ?_ | refine blk_alloc ?_ _)); exact BK111.out) NB111_0.out (by simp)); have n1_ := Aside0.mk (KeepBut.trans (by repeat (first | (with_reducible first | exact HK.out | apply KeepBut.set_ | apply keep_drewN | apply keep_drew | apply keep_alloc | refine keep_far ?_ GW111.out _) | exact HK.out)) hk (.inl rfl)); have n2_ := Aside0.mk (hb); have n3_ := Aside0.mk (hi); clear BK111; clear HK; clear HB; clear HI0; have BK111 := n0_; have HK := n1_; have HB := n2_; have HI0 := n3_; clear n0_ n1_ n2_ n3_; (try clear hb); (try clear hb2); (try clear hk); (try clear hi); obtain ⟨HGz19, hgz19⟩ := HI0.out; have hcz19_0 := cellS138_0 HGz19; have hcz19_1 := cellS138_1 HGz19; have hcz19_2 := cellS138_2 HGz19; have hcz19_3 := cellS138_3 HGz19; have hcz19_4 := cellS138_4 HGz19; have hfz19_0 := blk_frozen HGz19 0; have hfz19_1 := blk_frozen HGz19 1; have hfz19_2 := blk_frozen HGz19 2; have hfz19_3 := blk_frozen HGz19 3; have hfz19_4 := blk_frozen HGz19 4; clear HGz19 hgz19; have hnb20 := NB111_0.out; have hnc20 := NB0_111.out; have hcz21_0 : w18.cell? ⟨gb111, 0, none⟩ = some (.int .u64 a2_0) := (blk_cell BK111.out 0).trans rfl; have hcz21_1 : w18.cell? ⟨gb111, 1, none⟩ = some (.int .u64 a2_1) := (blk_cell BK111.out 1).trans rfl; have hfz21_0 := blk_frozen BK111.out 0; have hfz21_1 := blk_frozen BK111.out 1) | (go_at_call 61; (with_reducible refine (bits_Mul64.calls t116 a2_1 t119 t120 _ A16.out).mono ?_); rintro e w' ⟨rfl, ⟨nd, rfl⟩⟩; (try first | exact ⟨rfl, _, World.drewN_drewN _ _ _⟩ | exact ⟨rfl, _, Eq.trans (World.drewN_drewN _ _ _) (congrArg (World.drewN _) (Nat.add_assoc _ _ _))⟩)) | (go_at_call 63; (with_reducible refine (bits_Div64.calls kj3 t119 t120 t118 t121 t122 _ A17.out).mono ?_); rintro e w' ⟨rfl, ⟨nd, rfl⟩⟩; (try first | exact ⟨rfl, _, World.drewN_drewN _ _ _⟩ | exact ⟨rfl, _, Eq.trans (World.drewN_drewN _ _ _) (congrArg (World.drewN _) (Nat.add_assoc _ _ _))⟩))))
        go_ret
        exact ⟨by first | rfl | (simp [errW_none, errW_some] <;> rfl) | (simp [*, errW_none, errW_some] <;> rfl), by repeat (first | (with_reducible first | exact HI0.out | apply IsS138.alloc | apply IsS138.drewN | apply IsS138.drew | apply IsS138.set_0 | apply IsS138.set_1 | apply IsS138.set_2 | apply IsS138.set_3 | apply IsS138.set_4 | refine IsS138.far ?_ NB0_111.out _) | exact HI0.out), by repeat (first | (with_reducible first | exact HB.out | apply below_alloc | apply pw_below_drewN | apply below_drew1 | refine below_set ?_ (IsS138.ge HI0.out) | refine below_set ?_ GE111.out) | exact HB.out), by repeat (first | (with_reducible first | exact HK.out | apply KeepBut.set_ | apply keep_drewN | apply keep_drew | apply keep_alloc | refine keep_far ?_ GW111.out _) | exact HK.out)⟩
end Go.Proofs.YtlgfmmkabnbllaaDoor.PC
namespace Go.Proofs.YtlgfmmkabnbllaaDoor.Hand
open Go.RowKit Go.Proofs.YtlgfmmkabnbllaaDoorW.PrintWords Go.Proofs.YtlgfmmkabnbllaaDoorW.PrintLast Go.Proofs.YtlgfmmkabnbllaaDoorW.PrintMore Go.Proofs.YtlgfmmkabnbllaaDoor.PA Go.Proofs.YtlgfmmkabnbllaaDoor.PB Go.Proofs.YtlgfmmkabnbllaaDoor.PC
theorem new_yes {w : World} (a0 a1 n d : Int) (h : rate_May.f n d = some true) (h1 : decide (a0 > 4611686018427387904) = false) (h2 : decide (a1 > 4611686018427387904) = false) :
    Calls Tryd.prog 91 #[.int .u64 a0, .int .u64 a1, .agg #[.int .u64 n, .int .u64 d]] w fun e w' => ∃ g, e = .returned (.tuple #[.pointer (some ⟨g, 0, none⟩), .int .i64 0]) ∧ w'.heap[g]? = some (.cells #[.int .u64 a0, .int .u64 a1, .int .u64 0, .int .u64 n, .int .u64 d] 138 (0, 0)) ∧ w.heap.size ≤ g ∧ Below w.heap.size w w' := by
  obtain ⟨W, hW, b0, hWb⟩ := one_new w (.cells #[.int .u64 n, .int .u64 d] 30)
  have HW := Aside0.mk hW
  have HWb := Aside0.mk hWb
  have B0 := Aside0.mk b0
  have HM := Aside0.mk (rate_May.calls n d true W h)
  clear hW hWb h b0
  go_enter Tryd.func91, Tryd.ntmps91
  go_wp2_with fail
  rw [HW.out]
  refine HM.out.mono ?_
  rintro en w1 ⟨rfl, hb1⟩
  have b1 := blk_old B0.out hb1
  have c0 := (blk_cell b1 0).trans (show _ = some (Value.int .u64 n) from rfl)
  have c1 := (blk_cell b1 1).trans (show _ = some (Value.int .u64 d) from rfl)
  have HB1 := Aside0.mk hb1
  clear b1 hb1
  go_wp2
  go_ret2
  have hbw : Below w.heap.size w w1 := Below.trans HWb.out (below_mono HWb.out HB1.out)
  exact ⟨w1.heap.size, rfl, by simpa using heap_alloc_new w1 _, hbw.size, Below.alloc hbw hbw.size _⟩
def clock_New.f (a0 a1 a2_0 a2_1 : Int) : Option (Int × Int × Int × Int × Int × Int) := if rate_May.f a2_0 a2_1 = some true ∧ a0 ≤ 4611686018427387904 ∧ a1 ≤ 4611686018427387904 then some (a0, a1, 0, a2_0, a2_1, 0) else none
theorem clock_New.calls (a0 a1 a2_0 a2_1 : Int) (r1 r2 r3 r4 r5 r6 : Int) (w0 w : World) (hB : Below w0.heap.size w0 w) (h : clock_New.f a0 a1 a2_0 a2_1 = some (r1, r2, r3, r4, r5, r6)) :
    Calls Tryd.prog 91 #[.int .u64 a0, .int .u64 a1, .agg #[.int .u64 a2_0, .int .u64 a2_1]] w fun e w' => ∃ g, e = .returned (.tuple #[.pointer (some ⟨g, 0, none⟩), .int .i64 r6]) ∧ IsS138 w0 w' g r1 r2 r3 r4 r5 ∧ Below w0.heap.size w0 w' ∧ Below w.heap.size w w' ∧ w.heap.size ≤ g := by
  unfold clock_New.f at h
  split at h
  case isFalse => cases h
  rename_i hc
  have hh := Option.some.inj h
  obtain ⟨rfl, rfl, rfl, rfl, rfl, rfl⟩ : a0 = r1 ∧ a1 = r2 ∧ (0 : Int) = r3 ∧ a2_0 = r4 ∧ a2_1 = r5 ∧ (0 : Int) = r6 := by simpa using hh
  refine (new_yes a0 a1 a2_0 a2_1 hc.1 (decide_eq_false (by omega)) (decide_eq_false (by omega))).mono ?_
  rintro en w' ⟨g, rfl, hg, hge, hb⟩
  exact ⟨g, rfl, ⟨hg, Nat.le_trans hB.size hge⟩, below_step hB hb, hb, hge⟩
end Go.Proofs.YtlgfmmkabnbllaaDoor.Hand
namespace Go.Proofs.YtlgfmmkabnbllaaDoor.Hand
open Go.RowKit Go.Proofs.YtlgfmmkabnbllaaDoorW.PrintWords Go.Proofs.YtlgfmmkabnbllaaDoorW.PrintLast Go.Proofs.YtlgfmmkabnbllaaDoorW.PrintMore Go.Proofs.YtlgfmmkabnbllaaDoor.PA Go.Proofs.YtlgfmmkabnbllaaDoor.PB Go.Proofs.YtlgfmmkabnbllaaDoor.PC
set_option linter.unusedSimpArgs false
set_option linter.unusedVariables false
def notC : Obj → Bool
  | .cells _ t _ => t != 138
  | _ => true
@[simp] theorem notC_cells (cs : Array Value) (t : TypeId) (fr : Nat × Nat) : notC (.cells cs t fr) = (t != 138) := rfl
structure KeepD (w w' : World) (g : Nat) : Prop where
  size : w.heap.size ≤ w'.heap.size
  keep : ∀ (i : Nat) (o : Obj), w.heap[i]? = some o → i ≠ g → notC o = true → w'.heap[i]? = some o
theorem KeepD.refl (w : World) (g : Nat) : KeepD w w g := ⟨Nat.le_refl _, fun _ _ h _ _ => h⟩
theorem KeepD.trans {w w1 w2 : World} {g : Nat} (h : KeepD w w1 g) (k : KeepD w1 w2 g) : KeepD w w2 g :=
  ⟨Nat.le_trans h.size k.size, fun i o hi hg hn => k.keep i o (h.keep i o hi hg hn) hg hn⟩
theorem KeepD.below {w w1 w2 : World} {g : Nat} (h : KeepD w w1 g) (k : Below w1.heap.size w1 w2) : KeepD w w2 g :=
  h.trans ⟨k.size, fun i o hi _ _ => (k.block i (blk_lt hi)).trans hi⟩
theorem KeepD.but {w w1 w2 : World} {g gc : Nat} {cs : Array Value} (h : KeepD w w1 g) (hc : w1.heap[gc]? = some (.cells cs 138 (0, 0))) (k : KeepBut w1 w2 gc none) : KeepD w w2 g :=
  h.trans ⟨keep_size k, fun i o hi hg hn => by
    have hne : i ≠ gc := by
      rintro rfl
      rw [hc] at hi
      cases hi
      simp [notC] at hn
    exact KeepBut.blk k hi hne (by simp)⟩
theorem KeepD.set {w w1 : World} {g : Nat} (h : KeepD w w1 g) (j : Nat) (u : Value) : KeepD w (w1.setCell ⟨g, j, none⟩ u) g :=
  h.trans ⟨Nat.le_of_eq (by simp), fun i o hi hg _ => (Below.heap_setCell w1 ⟨g, j, none⟩ u i hg).trans hi⟩
theorem KeepD.drew {w w1 : World} {g : Nat} (h : KeepD w w1 g) : KeepD w w1.drew g := ⟨h.size, fun i o hi hg hn => h.keep i o hi hg hn⟩
abbrev dcells (mode pos n d : Int) (p : Value) : Array Value := #[.int .i64 mode, .int .u64 pos, .int .u64 n, .int .u64 d, p]
def IsS100 (w0 w : World) (g : Nat) (mode pos n d : Int) (has : Bool) (cs cp cr cn cd : Int) : Prop :=
  w0.heap.size ≤ g ∧ ((has = false ∧ w.heap[g]? = some (.cells (dcells mode pos n d (.pointer none)) 100 (0, 0))) ∨
    (has = true ∧ ∃ gc, w.heap[g]? = some (.cells (dcells mode pos n d (.pointer (some ⟨gc, 0, none⟩))) 100 (0, 0)) ∧ IsS138 w0 w gc cs cp cr cn cd))
theorem IsS100.ge {w0 w : World} {g : Nat} {mode pos n d : Int} {has : Bool} {cs cp cr cn cd : Int} (h : IsS100 w0 w g mode pos n d has cs cp cr cn cd) : w0.heap.size ≤ g := h.1
theorem IsS100.some_ {w0 w : World} {g : Nat} {mode pos n d : Int} {has : Bool} {cs cp cr cn cd : Int} (h : IsS100 w0 w g mode pos n d has cs cp cr cn cd) : ∃ p, w.heap[g]? = some (.cells (dcells mode pos n d (.pointer p)) 100 (0, 0)) := by
  obtain ⟨_, ⟨_, h⟩ | ⟨_, gc, h, _⟩⟩ := h
  · exact ⟨_, h⟩
  · exact ⟨_, h⟩
theorem IsS100.lt {w0 w : World} {g : Nat} {mode pos n d : Int} {has : Bool} {cs cp cr cn cd : Int} (h : IsS100 w0 w g mode pos n d has cs cp cr cn cd) : g < w.heap.size := by
  obtain ⟨p, h⟩ := h.some_
  exact blk_lt h
theorem IsS100.below {w0 w W : World} {g : Nat} {mode pos n d : Int} {has : Bool} {cs cp cr cn cd : Int} (h : IsS100 w0 w g mode pos n d has cs cp cr cn cd) (hb : Below w.heap.size w W) : IsS100 w0 W g mode pos n d has cs cp cr cn cd := by
  obtain ⟨h0, ⟨h1, h⟩ | ⟨h1, gc, h, hc⟩⟩ := h
  · exact ⟨h0, .inl ⟨h1, (hb.block g (blk_lt h)).trans h⟩⟩
  · exact ⟨h0, .inr ⟨h1, gc, (hb.block g (blk_lt h)).trans h, hc.below hb⟩⟩
theorem IsS100.alloc {w0 w : World} {g : Nat} {mode pos n d : Int} {has : Bool} {cs cp cr cn cd : Int} (h : IsS100 w0 w g mode pos n d has cs cp cr cn cd) (o : Obj) : IsS100 w0 (w.alloc o) g mode pos n d has cs cp cr cn cd := h.below (below_alloc (Below.refl _ _) o)
theorem IsS100.drew {w0 w : World} {g : Nat} {mode pos n d : Int} {has : Bool} {cs cp cr cn cd : Int} (h : IsS100 w0 w g mode pos n d has cs cp cr cn cd) : IsS100 w0 w.drew g mode pos n d has cs cp cr cn cd := h
end Go.Proofs.YtlgfmmkabnbllaaDoor.Hand
namespace Go.Proofs.YtlgfmmkabnbllaaDoor.Hand
open Go.RowKit Go.Proofs.YtlgfmmkabnbllaaDoorW.PrintWords Go.Proofs.YtlgfmmkabnbllaaDoorW.PrintLast Go.Proofs.YtlgfmmkabnbllaaDoorW.PrintMore Go.Proofs.YtlgfmmkabnbllaaDoor.PA Go.Proofs.YtlgfmmkabnbllaaDoor.PB Go.Proofs.YtlgfmmkabnbllaaDoor.PC
set_option linter.unusedSimpArgs false
set_option linter.unusedVariables false
theorem results_none {P : Program} {fn : Func} (h : fn.results = #[]) (tmps : Array Value) (w : World) : (results fn tmps).run P w = .ok (.tuple #[]) w := by
  simp [results, h]
abbrev DSt := Int × Int × Int × Int × Bool × Int × Int × Int × Int × Int
def mayV (now lo hi : Int) : Bool := decide (lo ≤ hi) && (decide (now ≤ 4611686018427387904) && decide (hi ≤ 4611686018427387904))
def deck_Deck_Live.f (s0 s1 s2 s3 : Int) (s4 : Bool) (s5 s6 s7 s8 s9 a1 : Int) : Option DSt := some (0, s1, s2, s3, false, 0, 0, 0, 0, 0)
def deck_Deck_pauses.f (s0 s1 s2 s3 : Int) (s4 : Bool) (s5 s6 s7 s8 s9 a1 : Int) : Option DSt := some (1, a1, s2, s3, false, 0, 0, 0, 0, 0)
def deck_Deck_plays.f (s0 s1 s2 s3 : Int) (s4 : Bool) (s5 s6 s7 s8 s9 a1 a2 : Int) : Option DSt :=
  (clock_New.f a1 a2 s2 s3).bind fun c => some (2, a2, s2, s3, true, c.1, c.2.1, c.2.2.1, c.2.2.2.1, c.2.2.2.2.1)
def tickEnd (s2 s3 hi p c1 c2 c3 c4 c5 : Int) : DSt := if p ≥ hi then (0, hi, s2, s3, false, 0, 0, 0, 0, 0) else (2, p, s2, s3, true, c1, c2, c3, c4, c5)
def deck_Deck_Tick.f (s0 s1 s2 s3 : Int) (s4 : Bool) (s5 s6 s7 s8 s9 a1 a2 a3 : Int) : Option DSt :=
  if mayV a1 a2 a3 = true then
    if s0 = 1 then some (1, max s1 a2, s2, s3, s4, s5, s6, s7, s8, s9)
    else if s0 = 2 then
      if s4 = true then
        (clock_Clock_Go.f s5 s6 s7 s8 s9 a1).bind fun r =>
          if r.1 < a2 then (clock_Clock_Set.f r.2.1 r.2.2.1 r.2.2.2.1 r.2.2.2.2.1 r.2.2.2.2.2 a1 a2).bind fun q => some (tickEnd s2 s3 a3 a2 q.2.1 q.2.2.1 q.2.2.2.1 q.2.2.2.2.1 q.2.2.2.2.2)
          else some (tickEnd s2 s3 a3 r.1 r.2.1 r.2.2.1 r.2.2.2.1 r.2.2.2.2.1 r.2.2.2.2.2)
      else none
    else some (s0, s1, s2, s3, s4, s5, s6, s7, s8, s9)
  else some (s0, s1, s2, s3, s4, s5, s6, s7, s8, s9)
def deck_Deck_Pause.f (s0 s1 s2 s3 : Int) (s4 : Bool) (s5 s6 s7 s8 s9 a1 a2 a3 : Int) : Option (Int × DSt) :=
  if mayV a1 a2 a3 = true then
    (if s0 = 2 then deck_Deck_Tick.f s0 s1 s2 s3 s4 s5 s6 s7 s8 s9 a1 a2 a3 else some (s0, s1, s2, s3, s4, s5, s6, s7, s8, s9)).bind fun x =>
      some (0, if x.1 = 0 then (1, a3, x.2.2.1, x.2.2.2.1, false, 0, 0, 0, 0, 0) else if x.1 = 2 then (1, x.2.1, x.2.2.1, x.2.2.2.1, false, 0, 0, 0, 0, 0) else x)
  else some (1, s0, s1, s2, s3, s4, s5, s6, s7, s8, s9)
def deck_Deck_Play.f (s0 s1 s2 s3 : Int) (s4 : Bool) (s5 s6 s7 s8 s9 a1 a2 a3 : Int) : Option (Int × DSt) :=
  if mayV a1 a2 a3 = true then
    if s0 = 0 then some (13, s0, s1, s2, s3, s4, s5, s6, s7, s8, s9)
    else if s0 = 1 then (deck_Deck_plays.f s0 s1 s2 s3 s4 s5 s6 s7 s8 s9 a1 (min (max s1 a2) a3)).bind fun x => some (0, x)
    else some (0, s0, s1, s2, s3, s4, s5, s6, s7, s8, s9)
  else some (1, s0, s1, s2, s3, s4, s5, s6, s7, s8, s9)
def deck_Deck_Seek.f (s0 s1 s2 s3 : Int) (s4 : Bool) (s5 s6 s7 s8 s9 a1 a2 a3 a4 : Int) : Option (Int × DSt) :=
  if mayV a1 a2 a3 = true then
    if a4 < a2 then some (12, s0, s1, s2, s3, s4, s5, s6, s7, s8, s9)
    else if s0 = 2 then (deck_Deck_plays.f s0 s1 s2 s3 s4 s5 s6 s7 s8 s9 a1 (min a4 a3)).bind fun x => some (0, x)
    else (deck_Deck_pauses.f s0 s1 s2 s3 s4 s5 s6 s7 s8 s9 (min a4 a3)).bind fun x => some (0, x)
  else some (1, s0, s1, s2, s3, s4, s5, s6, s7, s8, s9)
end Go.Proofs.YtlgfmmkabnbllaaDoor.Hand
namespace Go.Proofs.YtlgfmmkabnbllaaDoor.Hand
open Go.RowKit Go.Proofs.YtlgfmmkabnbllaaDoorW.PrintWords Go.Proofs.YtlgfmmkabnbllaaDoorW.PrintLast Go.Proofs.YtlgfmmkabnbllaaDoorW.PrintMore Go.Proofs.YtlgfmmkabnbllaaDoor.PA Go.Proofs.YtlgfmmkabnbllaaDoor.PB Go.Proofs.YtlgfmmkabnbllaaDoor.PC
set_option linter.unusedSimpArgs false
set_option linter.unusedVariables false
theorem may_some (n d : Int) : rate_May.f n d ≠ none := by
  unfold rate_May.f
  obtain ⟨c, hc⟩ : ∃ c, bits_OnesCount64.f d = some c := ⟨_, rfl⟩
  rw [hc, Option.bind_some]
  repeat' split
  all_goals simp
def atV (s P R n d t : Int) : Int × Int := if t ≤ s then (P, R) else if ((t - s) * n + R) / d ≥ 4611686018427387904 - P then (4611686018427387904, 0) else (P + ((t - s) * n + R) / d, ((t - s) * n + R) % d)
structure Sp (n d : Int) : Prop where
  may : rate_May.f n d = some true
  d1 : 1 ≤ d
  d2 : d ≤ 1048576
  n0 : 0 ≤ n
  n1 : n ≤ 1073741824
structure St (s P R d : Int) : Prop where
  s0 : 0 ≤ s
  s1 : s < 18446744073709551616
  p0 : 0 ≤ P
  p1 : P ≤ 4611686018427387904
  r0 : 0 ≤ R
  r1 : R < d
theorem sp_of {n d : Int} (h : rate_May.f n d = some true) (hn : 0 ≤ n) (hd : 0 ≤ d) : Sp n d := by
  obtain ⟨k, hk, e, h2⟩ := may_pow h hd
  obtain ⟨a, b⟩ := pow_20 k hk
  rw [← e] at a b
  exact ⟨h, a, b, hn, by omega⟩
theorem scale_f {t r n d : Int} (S : Sp n d) (ht : U64 t) (r0 : 0 ≤ r) (r1 : r < d) : rate_Scale.f t r n d = some (scaleV t r n d) := by
  obtain ⟨a, b, c, e, f⟩ := S
  unfold rate_Scale.f
  rw [if_pos ⟨ht, ⟨r0, by omega⟩, ⟨e, by omega⟩, ⟨by omega, by omega⟩⟩, a, Option.bind_some, if_pos ⟨rfl, r1⟩]
theorem at_any {s P R n d t : Int} (S : Sp n d) (T : St s P R d) (ht : U64 t) : clock_Clock_at.f s P R n d t = some ((atV s P R n d t).1, (atV s P R n d t).2, s, P, R, n, d) := by
  obtain ⟨a, b, c, e, f, g⟩ := T
  unfold clock_Clock_at.f atV
  by_cases h : t ≤ s
  · rw [if_pos h, if_pos h]
  · rw [if_neg h, if_neg h, IntWalk.u64_in (t - s) (by have := ht.2; have := ht.1; omega), scale_f S ⟨by omega, by have := ht.2; omega⟩ f g, Option.bind_some]
    have hN : 0 ≤ (t - s) * n + R := by have := Int.mul_nonneg (show 0 ≤ t - s by omega) S.n0; omega
    have hX : 0 ≤ ((t - s) * n + R) / d := Int.ediv_nonneg hN (by have := S.d1; omega)
    unfold scaleV
    generalize ((t - s) * n + R) / d = X at *
    generalize ((t - s) * n + R) % d = Y at *
    by_cases q : X > 4611686018427387904
    · rw [if_pos q, if_pos (show X ≥ 4611686018427387904 - P by omega)]
      rfl
    · rw [if_neg q, IntWalk.u64_in (4611686018427387904 - P) (by omega)]
      by_cases q2 : X ≥ 4611686018427387904 - P
      · refine (if_pos rfl).trans ((if_pos q2).trans ?_)
        rw [if_pos q2]
      · refine (if_pos rfl).trans ((if_neg q2).trans ?_)
        rw [if_neg q2]
        show some (IntKind.u64.wrap (P + X), Y, s, P, R, n, d) = _
        rw [IntWalk.u64_in (P + X) (by omega)]
theorem Go_any {s P R n d t : Int} (S : Sp n d) (T : St s P R d) (ht : U64 t) : clock_Clock_Go.f s P R n d t = some ((atV s P R n d t).1, if t > s then t else s, (atV s P R n d t).1, (atV s P R n d t).2, n, d) := by
  unfold clock_Clock_Go.f
  by_cases h : t > s
  · rw [if_pos h, if_pos h, at_any S T ht]; rfl
  · rw [if_neg h, if_neg h]
    have : atV s P R n d t = (P, R) := if_pos (by omega)
    rw [this]
theorem atV_inv {s P R n d t : Int} (S : Sp n d) (T : St s P R d) (ht : U64 t) : St t (atV s P R n d t).1 (atV s P R n d t).2 d ∧ P ≤ (atV s P R n d t).1 := by
  obtain ⟨a, b, c, e, f, g⟩ := T
  have hd := S.d1
  unfold atV
  by_cases h : t ≤ s
  · rw [if_pos h]; exact ⟨⟨ht.1, ht.2, c, e, f, g⟩, Int.le_refl _⟩
  · rw [if_neg h]
    have hN : 0 ≤ (t - s) * n + R := by have := Int.mul_nonneg (show 0 ≤ t - s by omega) S.n0; omega
    have hX : 0 ≤ ((t - s) * n + R) / d := Int.ediv_nonneg hN (by omega)
    have hY0 : 0 ≤ ((t - s) * n + R) % d := Int.emod_nonneg _ (by omega)
    have hY1 : ((t - s) * n + R) % d < d := Int.emod_lt_of_pos _ (by omega)
    generalize ((t - s) * n + R) / d = X at *
    generalize ((t - s) * n + R) % d = Y at *
    by_cases q2 : X ≥ 4611686018427387904 - P
    · rw [if_pos q2]; exact ⟨⟨ht.1, ht.2, by simp, by simp, by simp, show (0 : Int) < d by omega⟩, by simpa using e⟩
    · rw [if_neg q2]; exact ⟨⟨ht.1, ht.2, show 0 ≤ P + X by omega, show P + X ≤ _ by omega, hY0, hY1⟩, show P ≤ P + X by omega⟩
theorem mask32 (x : Int) (h0 : 0 ≤ x) (h1 : x < 4294967296) : Go.bits .and .u64 x 4294967295 = x := by
  rw [u64_and x 4294967295 h0 (by omega) (by omega) (by omega), show ((4294967295 : Int).toNat) = 2 ^ 32 - 1 from rfl, Nat.and_two_pow_sub_one_eq_mod]
  omega
theorem mul_small (x y : Int) (h0 : 0 ≤ x) (h1 : x < 1048577) (h2 : 0 ≤ y) (h3 : y < 1048577) : bits_Mul64.f x y = some (0, x * y) := by
  have hp0 : 0 ≤ x * y := Int.mul_nonneg h0 h2
  have hp1 : x * y ≤ 1048576 * 1048576 := Int.mul_le_mul (by omega) (by omega) h2 (by omega)
  have dx : x / 4294967296 = 0 := by omega
  have dy : y / 4294967296 = 0 := by omega
  unfold bits_Mul64.f
  rw [mask32 x h0 (by omega), mask32 y h2 (by omega), dx, dy]
  simp only [Int.zero_mul, Int.mul_zero]
  have w0 : IntKind.u64.wrap 0 = 0 := by decide +kernel
  have wp : IntKind.u64.wrap (x * y) = x * y := IntWalk.u64_in _ ⟨hp0, by omega⟩
  rw [w0, wp]
  generalize x * y = p at *
  have hq : p / 4294967296 < 4294967296 := by omega
  have hq0 : 0 ≤ p / 4294967296 := by omega
  simp only [Int.zero_add, Int.add_zero]
  have z : p / 4294967296 / 4294967296 = 0 := by omega
  rw [IntWalk.u64_in (p / 4294967296) ⟨hq0, by omega⟩, mask32 (p / 4294967296) hq0 hq, IntWalk.u64_in (p / 4294967296) ⟨hq0, by omega⟩, z]
  simp only [w0, Int.add_zero]
theorem turn_any {s P R n d t n2 d2 : Int} (S : Sp n d) (S2 : Sp n2 d2) (T : St s P R d) (t0 : 0 ≤ t) (t1 : t ≤ 4611686018427387904) (K : Nat) :
    clock_Clock_Turn.f (K + 1) s P R n d t n2 d2 = some (0, if t > s then t else s, (atV s P R n d t).1, (atV s P R n d t).2 * d2 / d, n2, d2) := by
  have ht : U64 t := ⟨t0, by omega⟩
  have I := (atV_inv S T ht).1
  have hd := S.d1
  have hd1 := S.d2
  have hm := mul_small (atV s P R n d t).2 d2 I.r0 (by have := I.r1; omega) (by have := S2.d1; omega) (by have := S2.d2; omega)
  have hp0 : 0 ≤ (atV s P R n d t).2 * d2 := Int.mul_nonneg I.r0 (by have := S2.d1; omega)
  have hp1 : (atV s P R n d t).2 * d2 ≤ 1048576 * 1048576 := Int.mul_le_mul (by have := I.r1; omega) S2.d2 (by have := S2.d1; omega) (by omega)
  have hv := hi_none K ((atV s P R n d t).2 * d2) d (by omega) hp0 (by omega)
  unfold clock_Clock_Turn.f
  rw [S2.may, Option.bind_some]
  refine (if_pos rfl).trans ?_
  rw [decide_eq_false (by omega), clock_Clock_Turn.j0]
  refine (if_neg (by simp)).trans ?_
  rw [Go_any S T ht, Option.bind_some]
  show (bits_Mul64.f (atV s P R n d t).2 d2).bind _ = _
  rw [hm, Option.bind_some]
  show (bits_Div64.f K 0 ((atV s P R n d t).2 * d2) d).bind _ = _
  rw [hv]; rfl
end Go.Proofs.YtlgfmmkabnbllaaDoor.Hand
namespace Go.Proofs.YtlgfmmkabnbllaaDoor.Hand
open Go.RowKit Go.Proofs.YtlgfmmkabnbllaaDoorW.PrintWords Go.Proofs.YtlgfmmkabnbllaaDoorW.PrintLast Go.Proofs.YtlgfmmkabnbllaaDoorW.PrintMore Go.Proofs.YtlgfmmkabnbllaaDoor.PA Go.Proofs.YtlgfmmkabnbllaaDoor.PB Go.Proofs.YtlgfmmkabnbllaaDoor.PC
set_option linter.unusedSimpArgs false
set_option linter.unusedVariables false
theorem mayV_parts {now lo hi : Int} (h : mayV now lo hi = true) : lo ≤ hi ∧ now ≤ 4611686018427387904 ∧ hi ≤ 4611686018427387904 := by
  unfold mayV at h
  simp only [Bool.and_eq_true, decide_eq_true_eq] at h
  exact ⟨h.1, h.2.1, h.2.2⟩
end Go.Proofs.YtlgfmmkabnbllaaDoor.Hand
namespace Go.Proofs.YtlgfmmkabnbllaaDoor.PM
open Go.RowKit Go.Proofs.YtlgfmmkabnbllaaDoorW.PrintWords Go.Proofs.YtlgfmmkabnbllaaDoorW.PrintLast Go.Proofs.YtlgfmmkabnbllaaDoorW.PrintMore
attribute [local go_sem] max2_int min2_int max_two min_two max_three min_three max_four min_four
set_option linter.unusedVariables false
set_option linter.unusedSimpArgs false
def errW : Option Int → Value
  | none => .nilIface
  | some c => .iface 0 (.int .i64 c)
theorem errW_none : errW none = .nilIface := rfl
theorem errW_some (c : Int) : errW (some c) = .iface 0 (.int .i64 c) := rfl
end Go.Proofs.YtlgfmmkabnbllaaDoor.PM
namespace Go.Proofs.YtlgfmmkabnbllaaDoor.PM
open Go.RowKit Go.Proofs.YtlgfmmkabnbllaaDoorW.PrintWords Go.Proofs.YtlgfmmkabnbllaaDoorW.PrintLast Go.Proofs.YtlgfmmkabnbllaaDoorW.PrintMore
attribute [local go_sem] max2_int min2_int max_two min_two max_three min_three max_four min_four
set_option linter.unusedVariables false
set_option linter.unusedSimpArgs false
def deck_may.f (a0 : Int) (a1 : Int) (a2 : Int) : Option (Bool) := if a1 ≤ a2 then (if a0 ≤ 4611686018427387904 then (some (decide (a2 ≤ 4611686018427387904))) else (some false)) else (some false)
set_option maxHeartbeats 8000000 in
set_option maxRecDepth 100000 in
theorem deck_may.calls (a0 : Int) (a1 : Int) (a2 : Int) (r : Bool) (w : World) (h : deck_may.f a0 a1 a2 = some r) :
    Calls Tryd.prog 55 #[.int .u64 a0, .int .u64 a1, .int .u64 a2] w fun e w' => e = .returned (.bool r) ∧ Drawn0 w w' := by
  have H : (if a1 ≤ a2 then (if a0 ≤ 4611686018427387904 then (some (decide (a2 ≤ 4611686018427387904))) else (some false)) else (some false)) = some r := h
  clear h
  by_cases c4 : a1 ≤ a2
  · rw [if_pos c4] at H
    have c4b0 : decide (a1 ≤ a2) = true := decide_eq_true c4
    clear c4
    by_cases c5 : a0 ≤ 4611686018427387904
    · rw [if_pos c5] at H
      have c5b0 : decide (a0 ≤ 4611686018427387904) = true := decide_eq_true c5
      clear c5
      obtain rfl := Option.some.inj H
      go_enter Tryd.func55, Tryd.ntmps55
      go_wp2
      go_ret
      exact ⟨by first | rfl | (simp; done) | (simp [*]; done), by repeat (first | exact Drawn0.refl _ | apply Drawn0.step)⟩
    · rw [if_neg c5] at H
      have c5b0 : decide (a0 ≤ 4611686018427387904) = false := decide_eq_false c5
      clear c5
      obtain rfl := Option.some.inj H
      go_enter Tryd.func55, Tryd.ntmps55
      go_wp2
      go_ret
      exact ⟨by first | rfl | (simp; done) | (simp [*]; done), by repeat (first | exact Drawn0.refl _ | apply Drawn0.step)⟩
  · rw [if_neg c4] at H
    have c4b0 : decide (a1 ≤ a2) = false := decide_eq_false c4
    clear c4
    obtain rfl := Option.some.inj H
    go_enter Tryd.func55, Tryd.ntmps55
    go_wp2
    go_ret
    exact ⟨by first | rfl | (simp; done) | (simp [*]; done), by repeat (first | exact Drawn0.refl _ | apply Drawn0.step)⟩
end Go.Proofs.YtlgfmmkabnbllaaDoor.PM
namespace Go.Proofs.YtlgfmmkabnbllaaDoor.Hand
open Go.RowKit Go.Proofs.YtlgfmmkabnbllaaDoorW.PrintWords Go.Proofs.YtlgfmmkabnbllaaDoorW.PrintLast Go.Proofs.YtlgfmmkabnbllaaDoorW.PrintMore Go.Proofs.YtlgfmmkabnbllaaDoor.PA Go.Proofs.YtlgfmmkabnbllaaDoor.PB Go.Proofs.YtlgfmmkabnbllaaDoor.PC Go.Proofs.YtlgfmmkabnbllaaDoor.PM
set_option linter.unusedSimpArgs false
set_option linter.unusedVariables false
theorem may_eq (a b c : Int) : deck_may.f a b c = some (mayV a b c) := by
  unfold deck_may.f mayV
  by_cases h1 : b ≤ c <;> by_cases h2 : a ≤ 4611686018427387904 <;> by_cases h3 : c ≤ 4611686018427387904 <;> simp [h1, h2, h3]
theorem IsS100.cells {w0 w : World} {g : Nat} {s0 s1 s2 s3 : Int} {s4 : Bool} {s5 s6 s7 s8 s9 : Int} (h : IsS100 w0 w g s0 s1 s2 s3 s4 s5 s6 s7 s8 s9) : ∃ p, w.heap[g]? = some (.cells (dcells s0 s1 s2 s3 (.pointer p)) 100 (0, 0)) ∧ w.cell? ⟨g, 0, none⟩ = some (.int .i64 s0) ∧ w.cell? ⟨g, 1, none⟩ = some (.int .u64 s1) ∧ w.cell? ⟨g, 2, none⟩ = some (.int .u64 s2) ∧ w.cell? ⟨g, 3, none⟩ = some (.int .u64 s3) ∧ w.cell? ⟨g, 4, none⟩ = some (.pointer p) ∧ w.frozen? ⟨g, 0, none⟩ = false ∧ w.frozen? ⟨g, 1, none⟩ = false ∧ w.frozen? ⟨g, 2, none⟩ = false ∧ w.frozen? ⟨g, 3, none⟩ = false ∧ w.frozen? ⟨g, 4, none⟩ = false := by
  obtain ⟨p, hg⟩ := h.some_
  exact ⟨p, hg, (blk_cell hg 0).trans rfl, (blk_cell hg 1).trans rfl, (blk_cell hg 2).trans rfl, (blk_cell hg 3).trans rfl, (blk_cell hg 4).trans rfl, blk_frozen hg 0, blk_frozen hg 1, blk_frozen hg 2, blk_frozen hg 3, blk_frozen hg 4⟩
set_option maxHeartbeats 8000000 in
theorem deck_Deck_plays.calls (g : Nat) (s0 s1 s2 s3 : Int) (s4 : Bool) (s5 s6 s7 s8 s9 : Int) (a1 : Int) (a2 : Int) (r1 r2 r3 r4 : Int) (r5 : Bool) (r6 r7 r8 r9 r10 : Int) (w0 w : World) (hI : IsS100 w0 w g s0 s1 s2 s3 s4 s5 s6 s7 s8 s9) (hB : Below w0.heap.size w0 w) (h : deck_Deck_plays.f s0 s1 s2 s3 s4 s5 s6 s7 s8 s9 a1 a2 = some (r1, r2, r3, r4, r5, r6, r7, r8, r9, r10)) :
    Calls Tryd.prog 56 #[.pointer (some ⟨g, 0, none⟩), .int .u64 a1, .int .u64 a2] w fun e w' => e = .returned (.tuple #[]) ∧ IsS100 w0 w' g r1 r2 r3 r4 r5 r6 r7 r8 r9 r10 ∧ Below w0.heap.size w0 w' ∧ KeepD w w' g := by
  unfold deck_Deck_plays.f at h
  obtain ⟨⟨q1, q2, q3, q4, q5, q6⟩, hN, h⟩ := Option.bind_eq_some_iff.mp h
  obtain ⟨rfl, rfl, rfl, rfl, rfl, rfl, rfl, rfl, rfl, rfl⟩ : (2 : Int) = r1 ∧ a2 = r2 ∧ s2 = r3 ∧ s3 = r4 ∧ true = r5 ∧ q1 = r6 ∧ q2 = r7 ∧ q3 = r8 ∧ q4 = r9 ∧ q5 = r10 := by simpa using Option.some.inj h
  obtain ⟨p, hg, c0, c1, c2, c3, c4, f0, f1, f2, f3, f4⟩ := hI.cells
  have HI := Aside0.mk hI
  have HB := Aside0.mk hB
  have HG := Aside0.mk hg
  clear hg hI hB
  have HN := Aside0.mk (fun (W : World) (hb : Below w0.heap.size w0 W) => clock_New.calls a1 a2 s2 s3 q1 q2 q3 q4 q5 q6 w0 W hb hN)
  clear hN h
  go_enter Tryd.func56, Tryd.ntmps56
  go_wp2_with fail
  have b1 := below_set (j := 1) (v := .int .u64 a2) (below_set (j := 0) (v := .int .i64 2) HB.out HI.out.ge) HI.out.ge
  have g1 := blk_put (cs := dcells 2 s1 s2 s3 (.pointer p)) (cs' := dcells 2 a2 s2 s3 (.pointer p)) (blk_put (cs := dcells s0 s1 s2 s3 (.pointer p)) (cs' := dcells 2 s1 s2 s3 (.pointer p)) HG.out 0 (.int .i64 2) rfl) 1 (.int .u64 a2) rfl
  have k1 := ((KeepD.refl w g).set 0 (.int .i64 2)).set 1 (.int .u64 a2)
  have B1 := Aside0.mk b1
  have G1 := Aside0.mk g1
  have K1 := Aside0.mk k1
  clear b1 g1 k1 c0 c1 c2 c3 c4 f0 f1 f2 f3 f4
  generalize (w.setCell ⟨g, 0, none⟩ (.int .i64 2)).setCell ⟨g, 1, none⟩ (.int .u64 a2) = w1 at *
  refine (HN.out w1 B1.out).mono ?_
  rintro en w2 ⟨gc, rfl, hc, hb0, hb1, hge⟩
  have g2 := (hb1.block g (blk_lt G1.out)).trans G1.out
  have c4 : w2.cell? ⟨g, 4, none⟩ = some (.pointer p) := (blk_cell g2 4).trans rfl
  have f4 := blk_frozen g2 4
  have HC := Aside0.mk hc
  have B2 := Aside0.mk hb0
  have G2 := Aside0.mk g2
  have K2 := Aside0.mk (K1.out.below hb1)
  clear hc hb0 hb1 g2
  go_wp2
  refine ⟨rfl, .tuple #[], results_none rfl _ _, ?_⟩
  have hne : gc ≠ g := Nat.ne_of_gt (Nat.lt_of_lt_of_le (blk_lt G1.out) hge)
  exact ⟨rfl, ⟨HI.out.ge, .inr ⟨rfl, gc, blk_put (cs := dcells 2 a2 s2 s3 (.pointer p)) (cs' := dcells 2 a2 s2 s3 (.pointer (some ⟨gc, 0, none⟩))) G2.out 4 _ rfl, HC.out.far hne _⟩⟩, below_set B2.out HI.out.ge, K2.out.set 4 _⟩
end Go.Proofs.YtlgfmmkabnbllaaDoor.Hand
namespace Go.Proofs.YtlgfmmkabnbllaaDoor.Hand
open Go.RowKit Go.Proofs.YtlgfmmkabnbllaaDoorW.PrintWords Go.Proofs.YtlgfmmkabnbllaaDoorW.PrintLast Go.Proofs.YtlgfmmkabnbllaaDoorW.PrintMore Go.Proofs.YtlgfmmkabnbllaaDoor.PA Go.Proofs.YtlgfmmkabnbllaaDoor.PB Go.Proofs.YtlgfmmkabnbllaaDoor.PC
set_option linter.unusedSimpArgs false
set_option linter.unusedVariables false
def deck_New.f : Option (Int × Int × Int × Int × Bool × Int × Int × Int × Int × Int) := some (0, 0, 1, 1, false, 0, 0, 0, 0, 0)
theorem deck_New.calls (r1 r2 r3 r4 : Int) (r5 : Bool) (r6 r7 r8 r9 r10 : Int) (w0 w : World) (hB : Below w0.heap.size w0 w) (h : deck_New.f = some (r1, r2, r3, r4, r5, r6, r7, r8, r9, r10)) :
    Calls Tryd.prog 13 #[] w fun e w' => ∃ g, e = .returned (.pointer (some ⟨g, 0, none⟩)) ∧ IsS100 w0 w' g r1 r2 r3 r4 r5 r6 r7 r8 r9 r10 ∧ Below w0.heap.size w0 w' ∧ Below w.heap.size w w' ∧ w.heap.size ≤ g := by
  unfold deck_New.f at h
  obtain ⟨rfl, rfl, rfl, rfl, rfl, rfl, rfl, rfl, rfl, rfl⟩ : (0 : Int) = r1 ∧ (0 : Int) = r2 ∧ (1 : Int) = r3 ∧ (1 : Int) = r4 ∧ false = r5 ∧ (0 : Int) = r6 ∧ (0 : Int) = r7 ∧ (0 : Int) = r8 ∧ (0 : Int) = r9 ∧ (0 : Int) = r10 := by simpa using Option.some.inj h
  have HB := Aside0.mk hB
  clear hB
  go_enter Tryd.func13, Tryd.ntmps13
  go_wp2
  go_ret
  have hb := Below.alloc (Below.refl w.heap.size w) (Nat.le_refl _) (.cells (dcells 0 0 1 1 (.pointer none)) 100 (0, 0))
  exact ⟨w.heap.size, rfl, ⟨HB.out.size, .inl ⟨rfl, by simpa using heap_alloc_new w _⟩⟩, below_step HB.out hb, hb, Nat.le_refl _⟩
def deck_Deck_Mode.f (s0 s1 s2 s3 : Int) (s4 : Bool) (s5 s6 s7 s8 s9 : Int)  : Option (Int × Int × Int × Int × Int × Bool × Int × Int × Int × Int × Int) := some (s0, s0, s1, s2, s3, s4, s5, s6, s7, s8, s9)
theorem deck_Deck_Mode.calls (g : Nat) (s0 s1 s2 s3 : Int) (s4 : Bool) (s5 s6 s7 s8 s9 : Int)  (r1 : Int) (r2 r3 r4 r5 : Int) (r6 : Bool) (r7 r8 r9 r10 r11 : Int) (w0 w : World) (hI : IsS100 w0 w g s0 s1 s2 s3 s4 s5 s6 s7 s8 s9) (hB : Below w0.heap.size w0 w) (h : deck_Deck_Mode.f s0 s1 s2 s3 s4 s5 s6 s7 s8 s9 = some (r1, r2, r3, r4, r5, r6, r7, r8, r9, r10, r11)) :
    Calls Tryd.prog 18 #[.pointer (some ⟨g, 0, none⟩)] w fun e w' => e = .returned (.int .i64 r1) ∧ IsS100 w0 w' g r2 r3 r4 r5 r6 r7 r8 r9 r10 r11 ∧ Below w0.heap.size w0 w' ∧ KeepD w w' g := by
  unfold deck_Deck_Mode.f at h
  obtain ⟨rfl, rfl, rfl, rfl, rfl, rfl, rfl, rfl, rfl, rfl, rfl⟩ : s0 = r1 ∧ s0 = r2 ∧ s1 = r3 ∧ s2 = r4 ∧ s3 = r5 ∧ s4 = r6 ∧ s5 = r7 ∧ s6 = r8 ∧ s7 = r9 ∧ s8 = r10 ∧ s9 = r11 := by simpa using Option.some.inj h
  obtain ⟨p, hg⟩ := hI.some_
  have HI := Aside0.mk hI
  have HB := Aside0.mk hB
  have HG := Aside0.mk hg
  have c0 : w.cell? ⟨g, 0, none⟩ = some (.int .i64 s0) := (blk_cell hg 0).trans rfl
  have c1 : w.cell? ⟨g, 1, none⟩ = some (.int .u64 s1) := (blk_cell hg 1).trans rfl
  have c2 : w.cell? ⟨g, 2, none⟩ = some (.int .u64 s2) := (blk_cell hg 2).trans rfl
  have c3 : w.cell? ⟨g, 3, none⟩ = some (.int .u64 s3) := (blk_cell hg 3).trans rfl
  have c4 : w.cell? ⟨g, 4, none⟩ = some (.pointer p) := (blk_cell hg 4).trans rfl
  have f0 := blk_frozen hg 0
  have f1 := blk_frozen hg 1
  have f2 := blk_frozen hg 2
  have f3 := blk_frozen hg 3
  have f4 := blk_frozen hg 4
  clear hg hI hB
  go_enter Tryd.func18, Tryd.ntmps18
  go_wp2
  go_ret
  exact ⟨rfl, HI.out, HB.out, KeepD.refl _ _⟩
def deck_Deck_Pos.f (s0 s1 s2 s3 : Int) (s4 : Bool) (s5 s6 s7 s8 s9 : Int)  : Option (Int × Int × Int × Int × Int × Bool × Int × Int × Int × Int × Int) := some (s1, s0, s1, s2, s3, s4, s5, s6, s7, s8, s9)
theorem deck_Deck_Pos.calls (g : Nat) (s0 s1 s2 s3 : Int) (s4 : Bool) (s5 s6 s7 s8 s9 : Int)  (r1 : Int) (r2 r3 r4 r5 : Int) (r6 : Bool) (r7 r8 r9 r10 r11 : Int) (w0 w : World) (hI : IsS100 w0 w g s0 s1 s2 s3 s4 s5 s6 s7 s8 s9) (hB : Below w0.heap.size w0 w) (h : deck_Deck_Pos.f s0 s1 s2 s3 s4 s5 s6 s7 s8 s9 = some (r1, r2, r3, r4, r5, r6, r7, r8, r9, r10, r11)) :
    Calls Tryd.prog 19 #[.pointer (some ⟨g, 0, none⟩)] w fun e w' => e = .returned (.int .u64 r1) ∧ IsS100 w0 w' g r2 r3 r4 r5 r6 r7 r8 r9 r10 r11 ∧ Below w0.heap.size w0 w' ∧ KeepD w w' g := by
  unfold deck_Deck_Pos.f at h
  obtain ⟨rfl, rfl, rfl, rfl, rfl, rfl, rfl, rfl, rfl, rfl, rfl⟩ : s1 = r1 ∧ s0 = r2 ∧ s1 = r3 ∧ s2 = r4 ∧ s3 = r5 ∧ s4 = r6 ∧ s5 = r7 ∧ s6 = r8 ∧ s7 = r9 ∧ s8 = r10 ∧ s9 = r11 := by simpa using Option.some.inj h
  obtain ⟨p, hg⟩ := hI.some_
  have HI := Aside0.mk hI
  have HB := Aside0.mk hB
  have HG := Aside0.mk hg
  have c0 : w.cell? ⟨g, 0, none⟩ = some (.int .i64 s0) := (blk_cell hg 0).trans rfl
  have c1 : w.cell? ⟨g, 1, none⟩ = some (.int .u64 s1) := (blk_cell hg 1).trans rfl
  have c2 : w.cell? ⟨g, 2, none⟩ = some (.int .u64 s2) := (blk_cell hg 2).trans rfl
  have c3 : w.cell? ⟨g, 3, none⟩ = some (.int .u64 s3) := (blk_cell hg 3).trans rfl
  have c4 : w.cell? ⟨g, 4, none⟩ = some (.pointer p) := (blk_cell hg 4).trans rfl
  have f0 := blk_frozen hg 0
  have f1 := blk_frozen hg 1
  have f2 := blk_frozen hg 2
  have f3 := blk_frozen hg 3
  have f4 := blk_frozen hg 4
  clear hg hI hB
  go_enter Tryd.func19, Tryd.ntmps19
  go_wp2
  go_ret
  exact ⟨rfl, HI.out, HB.out, KeepD.refl _ _⟩
theorem deck_Deck_Live.calls (g : Nat) (s0 s1 s2 s3 : Int) (s4 : Bool) (s5 s6 s7 s8 s9 : Int) (a1 : Int) (r1 r2 r3 r4 : Int) (r5 : Bool) (r6 r7 r8 r9 r10 : Int) (w0 w : World) (hI : IsS100 w0 w g s0 s1 s2 s3 s4 s5 s6 s7 s8 s9) (hB : Below w0.heap.size w0 w) (h : deck_Deck_Live.f s0 s1 s2 s3 s4 s5 s6 s7 s8 s9 a1 = some (r1, r2, r3, r4, r5, r6, r7, r8, r9, r10)) :
    Calls Tryd.prog 28 #[.pointer (some ⟨g, 0, none⟩), .int .u64 a1] w fun e w' => e = .returned (.tuple #[]) ∧ IsS100 w0 w' g r1 r2 r3 r4 r5 r6 r7 r8 r9 r10 ∧ Below w0.heap.size w0 w' ∧ KeepD w w' g := by
  unfold deck_Deck_Live.f at h
  obtain ⟨rfl, rfl, rfl, rfl, rfl, rfl, rfl, rfl, rfl, rfl⟩ : (0 : Int) = r1 ∧ s1 = r2 ∧ s2 = r3 ∧ s3 = r4 ∧ false = r5 ∧ (0 : Int) = r6 ∧ (0 : Int) = r7 ∧ (0 : Int) = r8 ∧ (0 : Int) = r9 ∧ (0 : Int) = r10 := by simpa using Option.some.inj h
  obtain ⟨p, hg⟩ := hI.some_
  have HI := Aside0.mk hI
  have HB := Aside0.mk hB
  have HG := Aside0.mk hg
  have c0 : w.cell? ⟨g, 0, none⟩ = some (.int .i64 s0) := (blk_cell hg 0).trans rfl
  have c1 : w.cell? ⟨g, 1, none⟩ = some (.int .u64 s1) := (blk_cell hg 1).trans rfl
  have c2 : w.cell? ⟨g, 2, none⟩ = some (.int .u64 s2) := (blk_cell hg 2).trans rfl
  have c3 : w.cell? ⟨g, 3, none⟩ = some (.int .u64 s3) := (blk_cell hg 3).trans rfl
  have c4 : w.cell? ⟨g, 4, none⟩ = some (.pointer p) := (blk_cell hg 4).trans rfl
  have f0 := blk_frozen hg 0
  have f1 := blk_frozen hg 1
  have f2 := blk_frozen hg 2
  have f3 := blk_frozen hg 3
  have f4 := blk_frozen hg 4
  clear hg hI hB
  go_enter Tryd.func28, Tryd.ntmps28
  go_wp2
  refine ⟨rfl, .tuple #[], results_none rfl _ _, ?_⟩
  exact ⟨rfl, ⟨HI.out.ge, .inl ⟨rfl, (blk_put (cs := dcells 0 s1 s2 s3 (.pointer p)) (cs' := dcells 0 s1 s2 s3 (.pointer none)) (blk_put (cs := dcells s0 s1 s2 s3 (.pointer p)) (cs' := dcells 0 s1 s2 s3 (.pointer p)) HG.out 0 (.int .i64 0) rfl) 4 (.pointer none) rfl)⟩⟩, below_set (below_set HB.out HI.out.ge) HI.out.ge, ((KeepD.refl _ _).set _ _).set _ _⟩
theorem deck_Deck_pauses.calls (g : Nat) (s0 s1 s2 s3 : Int) (s4 : Bool) (s5 s6 s7 s8 s9 : Int) (a1 : Int) (r1 r2 r3 r4 : Int) (r5 : Bool) (r6 r7 r8 r9 r10 : Int) (w0 w : World) (hI : IsS100 w0 w g s0 s1 s2 s3 s4 s5 s6 s7 s8 s9) (hB : Below w0.heap.size w0 w) (h : deck_Deck_pauses.f s0 s1 s2 s3 s4 s5 s6 s7 s8 s9 a1 = some (r1, r2, r3, r4, r5, r6, r7, r8, r9, r10)) :
    Calls Tryd.prog 57 #[.pointer (some ⟨g, 0, none⟩), .int .u64 a1] w fun e w' => e = .returned (.tuple #[]) ∧ IsS100 w0 w' g r1 r2 r3 r4 r5 r6 r7 r8 r9 r10 ∧ Below w0.heap.size w0 w' ∧ KeepD w w' g := by
  unfold deck_Deck_pauses.f at h
  obtain ⟨rfl, rfl, rfl, rfl, rfl, rfl, rfl, rfl, rfl, rfl⟩ : (1 : Int) = r1 ∧ a1 = r2 ∧ s2 = r3 ∧ s3 = r4 ∧ false = r5 ∧ (0 : Int) = r6 ∧ (0 : Int) = r7 ∧ (0 : Int) = r8 ∧ (0 : Int) = r9 ∧ (0 : Int) = r10 := by simpa using Option.some.inj h
  obtain ⟨p, hg⟩ := hI.some_
  have HI := Aside0.mk hI
  have HB := Aside0.mk hB
  have HG := Aside0.mk hg
  have c0 : w.cell? ⟨g, 0, none⟩ = some (.int .i64 s0) := (blk_cell hg 0).trans rfl
  have c1 : w.cell? ⟨g, 1, none⟩ = some (.int .u64 s1) := (blk_cell hg 1).trans rfl
  have c2 : w.cell? ⟨g, 2, none⟩ = some (.int .u64 s2) := (blk_cell hg 2).trans rfl
  have c3 : w.cell? ⟨g, 3, none⟩ = some (.int .u64 s3) := (blk_cell hg 3).trans rfl
  have c4 : w.cell? ⟨g, 4, none⟩ = some (.pointer p) := (blk_cell hg 4).trans rfl
  have f0 := blk_frozen hg 0
  have f1 := blk_frozen hg 1
  have f2 := blk_frozen hg 2
  have f3 := blk_frozen hg 3
  have f4 := blk_frozen hg 4
  clear hg hI hB
  go_enter Tryd.func57, Tryd.ntmps57
  go_wp2
  refine ⟨rfl, .tuple #[], results_none rfl _ _, ?_⟩
  exact ⟨rfl, ⟨HI.out.ge, .inl ⟨rfl, (blk_put (cs := dcells 1 a1 s2 s3 (.pointer p)) (cs' := dcells 1 a1 s2 s3 (.pointer none)) (blk_put (cs := dcells 1 s1 s2 s3 (.pointer p)) (cs' := dcells 1 a1 s2 s3 (.pointer p)) (blk_put (cs := dcells s0 s1 s2 s3 (.pointer p)) (cs' := dcells 1 s1 s2 s3 (.pointer p)) HG.out 0 (.int .i64 1) rfl) 1 (.int .u64 a1) rfl) 4 (.pointer none) rfl)⟩⟩, below_set (below_set (below_set HB.out HI.out.ge) HI.out.ge) HI.out.ge, (((KeepD.refl _ _).set _ _).set _ _).set _ _⟩
end Go.Proofs.YtlgfmmkabnbllaaDoor.Hand
namespace Go.Proofs.YtlgfmmkabnbllaaDoor.Hand
open Go.RowKit Go.Proofs.YtlgfmmkabnbllaaDoorW.PrintWords Go.Proofs.YtlgfmmkabnbllaaDoorW.PrintLast Go.Proofs.YtlgfmmkabnbllaaDoorW.PrintMore Go.Proofs.YtlgfmmkabnbllaaDoor.PA Go.Proofs.YtlgfmmkabnbllaaDoor.PB Go.Proofs.YtlgfmmkabnbllaaDoor.PC Go.Proofs.YtlgfmmkabnbllaaDoor.PM
set_option linter.unusedSimpArgs false
set_option linter.unusedVariables false
theorem IsS100.setPos {w0 w : World} {g : Nat} {s0 s1 s2 s3 : Int} {s4 : Bool} {s5 s6 s7 s8 s9 : Int} (h : IsS100 w0 w g s0 s1 s2 s3 s4 s5 s6 s7 s8 s9) (v : Int) : IsS100 w0 (w.setCell ⟨g, 1, none⟩ (.int .u64 v)) g s0 v s2 s3 s4 s5 s6 s7 s8 s9 := by
  obtain ⟨h0, ⟨h3, h⟩ | ⟨h3, gc, h, hc⟩⟩ := h
  · exact ⟨h0, .inl ⟨h3, blk_put (cs := dcells s0 s1 s2 s3 (.pointer none)) (cs' := dcells s0 v s2 s3 (.pointer none)) h 1 (.int .u64 v) rfl⟩⟩
  · exact ⟨h0, .inr ⟨h3, gc, blk_put (cs := dcells s0 s1 s2 s3 (.pointer (some ⟨gc, 0, none⟩))) (cs' := dcells s0 v s2 s3 (.pointer (some ⟨gc, 0, none⟩))) h 1 (.int .u64 v) rfl, hc.far (blk_ne hc.1 h (by decide)) _⟩⟩
theorem dcell {w : World} {g : Nat} {s0 s1 s2 s3 : Int} {p : Option Addr} (hg : w.heap[g]? = some (.cells (dcells s0 s1 s2 s3 (.pointer p)) 100 (0, 0))) : w.cell? ⟨g, 0, none⟩ = some (.int .i64 s0) ∧ w.cell? ⟨g, 1, none⟩ = some (.int .u64 s1) ∧ w.cell? ⟨g, 2, none⟩ = some (.int .u64 s2) ∧ w.cell? ⟨g, 3, none⟩ = some (.int .u64 s3) ∧ w.cell? ⟨g, 4, none⟩ = some (.pointer p) ∧ w.frozen? ⟨g, 0, none⟩ = false ∧ w.frozen? ⟨g, 1, none⟩ = false ∧ w.frozen? ⟨g, 2, none⟩ = false ∧ w.frozen? ⟨g, 3, none⟩ = false ∧ w.frozen? ⟨g, 4, none⟩ = false :=
  ⟨(blk_cell hg 0).trans rfl, (blk_cell hg 1).trans rfl, (blk_cell hg 2).trans rfl, (blk_cell hg 3).trans rfl, (blk_cell hg 4).trans rfl, blk_frozen hg 0, blk_frozen hg 1, blk_frozen hg 2, blk_frozen hg 3, blk_frozen hg 4⟩
def deck_Deck_Rate.f (s0 s1 s2 s3 : Int) (s4 : Bool) (s5 s6 s7 s8 s9 : Int) : Option (Int × Int × DSt) := some (s2, s3, s0, s1, s2, s3, s4, s5, s6, s7, s8, s9)
set_option maxHeartbeats 8000000 in
theorem deck_Deck_Rate.calls (g : Nat) (s0 s1 s2 s3 : Int) (s4 : Bool) (s5 s6 s7 s8 s9 : Int) (r1 : Int) (r2 : Int) (r3 r4 r5 r6 : Int) (r7 : Bool) (r8 r9 r10 r11 r12 : Int) (w0 w : World) (hI : IsS100 w0 w g s0 s1 s2 s3 s4 s5 s6 s7 s8 s9) (hB : Below w0.heap.size w0 w) (h : deck_Deck_Rate.f s0 s1 s2 s3 s4 s5 s6 s7 s8 s9 = some (r1, r2, r3, r4, r5, r6, r7, r8, r9, r10, r11, r12)) :
    Calls Tryd.prog 15 #[.pointer (some ⟨g, 0, none⟩)] w fun e w' => e = .returned (.agg #[.int .u64 r1, .int .u64 r2]) ∧ IsS100 w0 w' g r3 r4 r5 r6 r7 r8 r9 r10 r11 r12 ∧ Below w0.heap.size w0 w' ∧ KeepD w w' g := by
  unfold deck_Deck_Rate.f at h
  obtain ⟨rfl, rfl, rfl, rfl, rfl, rfl, rfl, rfl, rfl, rfl, rfl, rfl⟩ : s2 = r1 ∧ s3 = r2 ∧ s0 = r3 ∧ s1 = r4 ∧ s2 = r5 ∧ s3 = r6 ∧ s4 = r7 ∧ s5 = r8 ∧ s6 = r9 ∧ s7 = r10 ∧ s8 = r11 ∧ s9 = r12 := by simpa using Option.some.inj h
  obtain ⟨p, hg, c0, c1, c2, c3, c4, f0, f1, f2, f3, f4⟩ := hI.cells
  have HI := Aside0.mk hI
  have HB := Aside0.mk hB
  have HG := Aside0.mk hg
  have c2a : (w.alloc (.cells #[.int .u64 0, .int .u64 0] 30 (0, 0))).cell? ⟨g, 2, none⟩ = some (.int .u64 s2) := (hI.alloc _).cells.elim fun _ h => h.2.2.2.1
  have c3a : (w.alloc (.cells #[.int .u64 0, .int .u64 0] 30 (0, 0))).cell? ⟨g, 3, none⟩ = some (.int .u64 s3) := (hI.alloc _).cells.elim fun _ h => h.2.2.2.2.1
  clear hg hI hB c0 c1 c2 c3 c4 f0 f1 f2 f3 f4
  go_enter Tryd.func15, Tryd.ntmps15
  go_wp2
  refine bodyPost_ret (results_single rfl (.cell w.heap.size 30 #[.int .u64 s2, .int .u64 s3] (0, 0) _ rfl (blk_new w _) Tryd.underlying30 rfl (by kernel_rfl) .nil)) rfl ?_
  exact ⟨rfl, HI.out.alloc _, below_alloc HB.out _, (KeepD.refl w g).below (below_alloc (Below.refl _ _) _)⟩
set_option maxHeartbeats 8000000 in
theorem deck_Deck_Play.calls (g : Nat) (s0 s1 s2 s3 : Int) (s4 : Bool) (s5 s6 s7 s8 s9 : Int) (a1 : Int) (a2 : Int) (a3 : Int) (r1 : Int) (r2 r3 r4 r5 : Int) (r6 : Bool) (r7 r8 r9 r10 r11 : Int) (w0 w : World) (hI : IsS100 w0 w g s0 s1 s2 s3 s4 s5 s6 s7 s8 s9) (hB : Below w0.heap.size w0 w) (h : deck_Deck_Play.f s0 s1 s2 s3 s4 s5 s6 s7 s8 s9 a1 a2 a3 = some (r1, r2, r3, r4, r5, r6, r7, r8, r9, r10, r11)) :
    Calls Tryd.prog 24 #[.pointer (some ⟨g, 0, none⟩), .int .u64 a1, .int .u64 a2, .int .u64 a3] w fun e w' => e = .returned (.int .i64 r1) ∧ IsS100 w0 w' g r2 r3 r4 r5 r6 r7 r8 r9 r10 r11 ∧ Below w0.heap.size w0 w' ∧ KeepD w w' g := by
  unfold deck_Deck_Play.f at h
  have HI := Aside0.mk hI
  have HB := Aside0.mk hB
  clear hI hB
  go_enter Tryd.func24, Tryd.ntmps24
  go_wp2_with fail
  refine (deck_may.calls a1 a2 a3 (mayV a1 a2 a3) _ (may_eq _ _ _)).mono ?_
  rintro e1 w1 ⟨rfl, hd⟩
  have HI1 := Aside0.mk (HI.out.below hd.below)
  have HB1 := Aside0.mk (below_step HB.out hd.below)
  have K1 := Aside0.mk ((KeepD.refl w g).below hd.below)
  obtain ⟨p, hg, c0, c1, c2, c3, c4, f0, f1, f2, f3, f4⟩ := HI1.out.cells
  have HG := Aside0.mk hg
  clear hg hd
  by_cases hm : mayV a1 a2 a3 = true
  · rw [if_pos hm] at h
    by_cases h0 : s0 = 0
    · rw [if_pos h0] at h
      obtain ⟨rfl, rfl, rfl, rfl, rfl, rfl, rfl, rfl, rfl, rfl, rfl⟩ : (13 : Int) = r1 ∧ s0 = r2 ∧ s1 = r3 ∧ s2 = r4 ∧ s3 = r5 ∧ s4 = r6 ∧ s5 = r7 ∧ s6 = r8 ∧ s7 = r9 ∧ s8 = r10 ∧ s9 = r11 := by simpa using Option.some.inj h
      have e0 : (s0 == 0) = true := by simp [h0]
      go_wp2_with fail
      go_ret
      exact ⟨rfl, HI1.out, HB1.out, K1.out⟩
    · rw [if_neg h0] at h
      have e0 : (s0 == 0) = false := by simp [h0]
      by_cases h1 : s0 = 1
      · rw [if_pos h1] at h
        obtain ⟨⟨q1, q2, q3, q4, q5, q6, q7, q8, q9, q10⟩, hp, h⟩ := Option.bind_eq_some_iff.mp h
        obtain ⟨rfl, rfl, rfl, rfl, rfl, rfl, rfl, rfl, rfl, rfl, rfl⟩ : (0 : Int) = r1 ∧ q1 = r2 ∧ q2 = r3 ∧ q3 = r4 ∧ q4 = r5 ∧ q5 = r6 ∧ q6 = r7 ∧ q7 = r8 ∧ q8 = r9 ∧ q9 = r10 ∧ q10 = r11 := by simpa using Option.some.inj h
        have e1 : (s0 == 1) = true := by simp [h1]
        have HP := Aside0.mk hp
        clear hp h
        go_wp2_with fail
        refine (deck_Deck_plays.calls g s0 s1 s2 s3 s4 s5 s6 s7 s8 s9 a1 (min (max s1 a2) a3) q1 q2 q3 q4 q5 q6 q7 q8 q9 q10 w0 _ HI1.out HB1.out HP.out).mono ?_
        rintro e2 w2 ⟨rfl, hI2, hB2, hK2⟩
        have HI2 := Aside0.mk hI2
        have HB2 := Aside0.mk hB2
        have K2 := Aside0.mk (K1.out.trans hK2)
        clear hI2 hB2 hK2 c0 c1 c2 c3 c4 f0 f1 f2 f3 f4
        go_wp2
        go_ret
        exact ⟨rfl, HI2.out, HB2.out, K2.out⟩
      · rw [if_neg h1] at h
        obtain ⟨rfl, rfl, rfl, rfl, rfl, rfl, rfl, rfl, rfl, rfl, rfl⟩ : (0 : Int) = r1 ∧ s0 = r2 ∧ s1 = r3 ∧ s2 = r4 ∧ s3 = r5 ∧ s4 = r6 ∧ s5 = r7 ∧ s6 = r8 ∧ s7 = r9 ∧ s8 = r10 ∧ s9 = r11 := by simpa using Option.some.inj h
        have e1 : (s0 == 1) = false := by simp [h1]
        go_wp2_with fail
        go_ret
        exact ⟨rfl, HI1.out, HB1.out, K1.out⟩
  · rw [if_neg hm] at h
    obtain ⟨rfl, rfl, rfl, rfl, rfl, rfl, rfl, rfl, rfl, rfl, rfl⟩ : (1 : Int) = r1 ∧ s0 = r2 ∧ s1 = r3 ∧ s2 = r4 ∧ s3 = r5 ∧ s4 = r6 ∧ s5 = r7 ∧ s6 = r8 ∧ s7 = r9 ∧ s8 = r10 ∧ s9 = r11 := by simpa using Option.some.inj h
    have em : mayV a1 a2 a3 = false := by simpa using hm
    go_wp2_with fail
    go_ret
    exact ⟨rfl, HI1.out, HB1.out, K1.out⟩
set_option maxHeartbeats 8000000 in
theorem deck_Deck_Seek.calls (g : Nat) (s0 s1 s2 s3 : Int) (s4 : Bool) (s5 s6 s7 s8 s9 : Int) (a1 : Int) (a2 : Int) (a3 : Int) (a4 : Int) (r1 : Int) (r2 r3 r4 r5 : Int) (r6 : Bool) (r7 r8 r9 r10 r11 : Int) (w0 w : World) (hI : IsS100 w0 w g s0 s1 s2 s3 s4 s5 s6 s7 s8 s9) (hB : Below w0.heap.size w0 w) (h : deck_Deck_Seek.f s0 s1 s2 s3 s4 s5 s6 s7 s8 s9 a1 a2 a3 a4 = some (r1, r2, r3, r4, r5, r6, r7, r8, r9, r10, r11)) :
    Calls Tryd.prog 23 #[.pointer (some ⟨g, 0, none⟩), .int .u64 a1, .int .u64 a2, .int .u64 a3, .int .u64 a4] w fun e w' => e = .returned (.int .i64 r1) ∧ IsS100 w0 w' g r2 r3 r4 r5 r6 r7 r8 r9 r10 r11 ∧ Below w0.heap.size w0 w' ∧ KeepD w w' g := by
  unfold deck_Deck_Seek.f at h
  have HI := Aside0.mk hI
  have HB := Aside0.mk hB
  clear hI hB
  go_enter Tryd.func23, Tryd.ntmps23
  go_wp2_with fail
  refine (deck_may.calls a1 a2 a3 (mayV a1 a2 a3) _ (may_eq _ _ _)).mono ?_
  rintro e1 w1 ⟨rfl, hd⟩
  have HI1 := Aside0.mk (HI.out.below hd.below)
  have HB1 := Aside0.mk (below_step HB.out hd.below)
  have K1 := Aside0.mk ((KeepD.refl w g).below hd.below)
  obtain ⟨p, hg, c0, c1, c2, c3, c4, f0, f1, f2, f3, f4⟩ := HI1.out.cells
  have HG := Aside0.mk hg
  clear hg hd
  by_cases hm : mayV a1 a2 a3 = true
  · rw [if_pos hm] at h
    by_cases h0 : a4 < a2
    · rw [if_pos h0] at h
      obtain ⟨rfl, rfl, rfl, rfl, rfl, rfl, rfl, rfl, rfl, rfl, rfl⟩ : (12 : Int) = r1 ∧ s0 = r2 ∧ s1 = r3 ∧ s2 = r4 ∧ s3 = r5 ∧ s4 = r6 ∧ s5 = r7 ∧ s6 = r8 ∧ s7 = r9 ∧ s8 = r10 ∧ s9 = r11 := by simpa using Option.some.inj h
      have e0 : decide (a4 < a2) = true := decide_eq_true h0
      go_wp2_with fail
      go_ret
      exact ⟨rfl, HI1.out, HB1.out, K1.out⟩
    · rw [if_neg h0] at h
      have e0 : decide (a4 < a2) = false := decide_eq_false h0
      by_cases h1 : s0 = 2
      · rw [if_pos h1] at h
        obtain ⟨⟨q1, q2, q3, q4, q5, q6, q7, q8, q9, q10⟩, hp, h⟩ := Option.bind_eq_some_iff.mp h
        obtain ⟨rfl, rfl, rfl, rfl, rfl, rfl, rfl, rfl, rfl, rfl, rfl⟩ : (0 : Int) = r1 ∧ q1 = r2 ∧ q2 = r3 ∧ q3 = r4 ∧ q4 = r5 ∧ q5 = r6 ∧ q6 = r7 ∧ q7 = r8 ∧ q8 = r9 ∧ q9 = r10 ∧ q10 = r11 := by simpa using Option.some.inj h
        have e1 : (s0 == 2) = true := by simp [h1]
        have HP := Aside0.mk hp
        clear hp h
        go_wp2_with fail
        refine (deck_Deck_plays.calls g s0 s1 s2 s3 s4 s5 s6 s7 s8 s9 a1 (min a4 a3) q1 q2 q3 q4 q5 q6 q7 q8 q9 q10 w0 _ HI1.out HB1.out HP.out).mono ?_
        rintro e2 w2 ⟨rfl, hI2, hB2, hK2⟩
        have HI2 := Aside0.mk hI2
        have HB2 := Aside0.mk hB2
        have K2 := Aside0.mk (K1.out.trans hK2)
        clear hI2 hB2 hK2 c0 c1 c2 c3 c4 f0 f1 f2 f3 f4
        go_wp2
        go_ret
        exact ⟨rfl, HI2.out, HB2.out, K2.out⟩
      · rw [if_neg h1] at h
        obtain ⟨⟨q1, q2, q3, q4, q5, q6, q7, q8, q9, q10⟩, hp, h⟩ := Option.bind_eq_some_iff.mp h
        obtain ⟨rfl, rfl, rfl, rfl, rfl, rfl, rfl, rfl, rfl, rfl, rfl⟩ : (0 : Int) = r1 ∧ q1 = r2 ∧ q2 = r3 ∧ q3 = r4 ∧ q4 = r5 ∧ q5 = r6 ∧ q6 = r7 ∧ q7 = r8 ∧ q8 = r9 ∧ q9 = r10 ∧ q10 = r11 := by simpa using Option.some.inj h
        have e1 : (s0 == 2) = false := by simp [h1]
        have HP := Aside0.mk hp
        clear hp h
        go_wp2_with fail
        refine (deck_Deck_pauses.calls g s0 s1 s2 s3 s4 s5 s6 s7 s8 s9 (min a4 a3) q1 q2 q3 q4 q5 q6 q7 q8 q9 q10 w0 _ HI1.out HB1.out HP.out).mono ?_
        rintro e2 w2 ⟨rfl, hI2, hB2, hK2⟩
        have HI2 := Aside0.mk hI2
        have HB2 := Aside0.mk hB2
        have K2 := Aside0.mk (K1.out.trans hK2)
        clear hI2 hB2 hK2 c0 c1 c2 c3 c4 f0 f1 f2 f3 f4
        go_wp2
        go_ret
        exact ⟨rfl, HI2.out, HB2.out, K2.out⟩
  · rw [if_neg hm] at h
    obtain ⟨rfl, rfl, rfl, rfl, rfl, rfl, rfl, rfl, rfl, rfl, rfl⟩ : (1 : Int) = r1 ∧ s0 = r2 ∧ s1 = r3 ∧ s2 = r4 ∧ s3 = r5 ∧ s4 = r6 ∧ s5 = r7 ∧ s6 = r8 ∧ s7 = r9 ∧ s8 = r10 ∧ s9 = r11 := by simpa using Option.some.inj h
    have em : mayV a1 a2 a3 = false := by simpa using hm
    go_wp2_with fail
    go_ret
    exact ⟨rfl, HI1.out, HB1.out, K1.out⟩
set_option maxHeartbeats 8000000 in
theorem deck_Deck_Tick.calls (g : Nat) (s0 s1 s2 s3 : Int) (s4 : Bool) (s5 s6 s7 s8 s9 : Int) (a1 : Int) (a2 : Int) (a3 : Int) (r1 r2 r3 r4 : Int) (r5 : Bool) (r6 r7 r8 r9 r10 : Int) (w0 w : World) (hI : IsS100 w0 w g s0 s1 s2 s3 s4 s5 s6 s7 s8 s9) (hB : Below w0.heap.size w0 w) (h : deck_Deck_Tick.f s0 s1 s2 s3 s4 s5 s6 s7 s8 s9 a1 a2 a3 = some (r1, r2, r3, r4, r5, r6, r7, r8, r9, r10)) :
    Calls Tryd.prog 25 #[.pointer (some ⟨g, 0, none⟩), .int .u64 a1, .int .u64 a2, .int .u64 a3] w fun e w' => e = .returned (.tuple #[]) ∧ IsS100 w0 w' g r1 r2 r3 r4 r5 r6 r7 r8 r9 r10 ∧ Below w0.heap.size w0 w' ∧ KeepD w w' g := by
  unfold deck_Deck_Tick.f at h
  have HI := Aside0.mk hI
  have HB := Aside0.mk hB
  clear hI hB
  go_enter Tryd.func25, Tryd.ntmps25
  go_wp2_with fail
  refine (deck_may.calls a1 a2 a3 (mayV a1 a2 a3) _ (may_eq _ _ _)).mono ?_
  rintro e1 w1 ⟨rfl, hd⟩
  have HI1 := Aside0.mk (HI.out.below hd.below)
  have HB1 := Aside0.mk (below_step HB.out hd.below)
  have K1 := Aside0.mk ((KeepD.refl w g).below hd.below)
  obtain ⟨p, hg, c0, c1, c2, c3, c4, f0, f1, f2, f3, f4⟩ := HI1.out.cells
  have HG := Aside0.mk hg
  clear hg hd
  by_cases hm : mayV a1 a2 a3 = true
  · rw [if_pos hm] at h
    by_cases h1 : s0 = 1
    · rw [if_pos h1] at h
      obtain ⟨rfl, rfl, rfl, rfl, rfl, rfl, rfl, rfl, rfl, rfl⟩ : (1 : Int) = r1 ∧ max s1 a2 = r2 ∧ s2 = r3 ∧ s3 = r4 ∧ s4 = r5 ∧ s5 = r6 ∧ s6 = r7 ∧ s7 = r8 ∧ s8 = r9 ∧ s9 = r10 := by simpa using Option.some.inj h
      have e1 : (s0 == 1) = true := by simp [h1]
      go_wp2_with fail
      refine ⟨rfl, .tuple #[], results_none rfl _ _, ?_⟩
      subst h1
      exact ⟨rfl, HI1.out.setPos _, below_set HB1.out HI1.out.ge, K1.out.set 1 _⟩
    · rw [if_neg h1] at h
      have e1 : (s0 == 1) = false := by simp [h1]
      by_cases h2 : s0 = 2
      · rw [if_pos h2] at h
        have e2 : (s0 == 2) = true := by simp [h2]
        split at h
        case isFalse => cases h
        rename_i h4
        subst h4
        subst h2
        obtain ⟨hx, ⟨hy, _⟩ | ⟨_, gc, hg, hc⟩⟩ := HI1.out
        · cases hy
        have hne : g ≠ gc := blk_ne hg hc.1 (by decide)
        obtain ⟨⟨p1, q1, q2, q3, q4, q5⟩, hgo, h⟩ := Option.bind_eq_some_iff.mp h
        clear HG c4
        have c4 : w1.cell? ⟨g, 4, none⟩ = some (.pointer (some ⟨gc, 0, none⟩)) := (blk_cell hg 4).trans rfl
        have HG := Aside0.mk hg
        have HC := Aside0.mk hc
        have HN := Aside0.mk hne
        clear hg hc hne hx
        have HX := Aside0.mk HI1.out.ge
        have HGO := Aside0.mk hgo
        clear hgo
        go_wp2_with fail
        refine (clock_Clock_Go.calls gc s5 s6 s7 s8 s9 a1 p1 q1 q2 q3 q4 q5 w0 _ HC.out HB1.out HGO.out).mono ?_
        rintro e2 w2 ⟨rfl, hc, hb, hk⟩
        have hg := KeepBut.blk hk HG.out HN.out (by simp)
        replace hk := K1.out.but HC.out.1 hk
        clear c0 c1 c2 c3 c4 f0 f1 f2 f3 f4 HG HC HI1 HB1 K1 HGO
        obtain ⟨c0, c1, c2, c3, c4, f0, f1, f2, f3, f4⟩ := dcell hg
        have hg3 := blk_put (cs := dcells 2 s1 s2 s3 (.pointer (some ⟨gc, 0, none⟩))) (cs' := dcells 2 p1 s2 s3 (.pointer (some ⟨gc, 0, none⟩))) hg 1 (.int .u64 p1) rfl
        have HG3 := Aside0.mk hg3
        have HC3 := Aside0.mk (hc.far (p := ⟨g, 1, none⟩) HN.out.symm (.int .u64 p1))
        have HB3 := Aside0.mk (below_set (j := 1) (v := .int .u64 p1) hb HX.out)
        have K3 := Aside0.mk (hk.set 1 (.int .u64 p1))
        clear hg hc hb hk hg3
        by_cases h3 : p1 < a2
        · rw [if_pos h3] at h
          have e3 : decide (p1 < a2) = true := decide_eq_true h3
          obtain ⟨⟨p2, u1, u2, u3, u4, u5⟩, hset, h⟩ := Option.bind_eq_some_iff.mp h
          have HSE := Aside0.mk hset
          have hg4 := blk_put (cs := dcells 2 p1 s2 s3 (.pointer (some ⟨gc, 0, none⟩))) (cs' := dcells 2 a2 s2 s3 (.pointer (some ⟨gc, 0, none⟩))) HG3.out 1 (.int .u64 a2) rfl
          have HG4 := Aside0.mk hg4
          have HC4 := Aside0.mk (HC3.out.far (p := ⟨g, 1, none⟩) HN.out.symm (.int .u64 a2))
          have HB4 := Aside0.mk (below_set (j := 1) (v := .int .u64 a2) HB3.out HX.out)
          have K4 := Aside0.mk (K3.out.set 1 (.int .u64 a2))
          clear hg4 hset
          go_wp2_with fail
          refine (clock_Clock_Set.calls gc q1 q2 q3 q4 q5 a1 a2 p2 u1 u2 u3 u4 u5 w0 _ HC4.out HB4.out HSE.out).mono ?_
          rintro e5 w5 ⟨rfl, hc, hb, hk⟩
          have hg := KeepBut.blk hk HG4.out HN.out (by simp)
          replace hk := K4.out.but HC4.out.1 hk
          clear c0 c1 c2 c3 c4 f0 f1 f2 f3 f4 HG3 HC3 HB3 K3 HG4 HC4 HB4 K4 HSE
          obtain ⟨c0, c1, c2, c3, c4, f0, f1, f2, f3, f4⟩ := dcell hg
          have HG5 := Aside0.mk hg
          have HC5 := Aside0.mk hc
          have HB5 := Aside0.mk hb
          have K5 := Aside0.mk hk
          clear hg hc hb hk
          by_cases h9 : a2 ≥ a3
          · have e9 : decide (a2 ≥ a3) = true := decide_eq_true h9
            unfold tickEnd at h
            rw [if_pos h9] at h
            obtain ⟨rfl, rfl, rfl, rfl, rfl, rfl, rfl, rfl, rfl, rfl⟩ : (0 : Int) = r1 ∧ a3 = r2 ∧ s2 = r3 ∧ s3 = r4 ∧ false = r5 ∧ (0 : Int) = r6 ∧ (0 : Int) = r7 ∧ (0 : Int) = r8 ∧ (0 : Int) = r9 ∧ (0 : Int) = r10 := by simpa using Option.some.inj h
            clear h
            go_wp2_with fail
            refine (deck_Deck_Live.calls g 2 a2 s2 s3 true u1 u2 u3 u4 u5 a1 0 a2 s2 s3 false 0 0 0 0 0 w0 _ ⟨HX.out, .inr ⟨rfl, gc, HG5.out, HC5.out⟩⟩ HB5.out rfl).mono ?_
            rintro e8 w8 ⟨rfl, hI8, hB8, hK8⟩
            have HI8 := Aside0.mk hI8
            have HB8 := Aside0.mk hB8
            have K8 := Aside0.mk (K5.out.trans hK8)
            obtain ⟨p8, -, c0, c1, c2, c3, c4, f0, f1, f2, f3, f4⟩ := hI8.cells
            clear hI8 hB8 hK8
            go_wp2
            refine ⟨rfl, .tuple #[], results_none rfl _ _, ?_⟩
            exact ⟨rfl, HI8.out.setPos _, below_set HB8.out HX.out, K8.out.set 1 _⟩
          · have e9 : decide (a2 ≥ a3) = false := decide_eq_false h9
            unfold tickEnd at h
            rw [if_neg h9] at h
            obtain ⟨rfl, rfl, rfl, rfl, rfl, rfl, rfl, rfl, rfl, rfl⟩ : (2 : Int) = r1 ∧ a2 = r2 ∧ s2 = r3 ∧ s3 = r4 ∧ true = r5 ∧ u1 = r6 ∧ u2 = r7 ∧ u3 = r8 ∧ u4 = r9 ∧ u5 = r10 := by simpa using Option.some.inj h
            clear h
            go_wp2_with fail
            refine ⟨rfl, .tuple #[], results_none rfl _ _, ?_⟩
            exact ⟨rfl, ⟨HX.out, .inr ⟨rfl, gc, HG5.out, HC5.out⟩⟩, HB5.out, K5.out⟩
        · rw [if_neg h3] at h
          have e3 : decide (p1 < a2) = false := decide_eq_false h3
          by_cases h9 : p1 ≥ a3
          · have e9 : decide (p1 ≥ a3) = true := decide_eq_true h9
            unfold tickEnd at h
            rw [if_pos h9] at h
            obtain ⟨rfl, rfl, rfl, rfl, rfl, rfl, rfl, rfl, rfl, rfl⟩ : (0 : Int) = r1 ∧ a3 = r2 ∧ s2 = r3 ∧ s3 = r4 ∧ false = r5 ∧ (0 : Int) = r6 ∧ (0 : Int) = r7 ∧ (0 : Int) = r8 ∧ (0 : Int) = r9 ∧ (0 : Int) = r10 := by simpa using Option.some.inj h
            clear h
            go_wp2_with fail
            refine (deck_Deck_Live.calls g 2 p1 s2 s3 true q1 q2 q3 q4 q5 a1 0 p1 s2 s3 false 0 0 0 0 0 w0 _ ⟨HX.out, .inr ⟨rfl, gc, HG3.out, HC3.out⟩⟩ HB3.out rfl).mono ?_
            rintro e8 w8 ⟨rfl, hI8, hB8, hK8⟩
            have HI8 := Aside0.mk hI8
            have HB8 := Aside0.mk hB8
            have K8 := Aside0.mk (K3.out.trans hK8)
            obtain ⟨p8, -, c0, c1, c2, c3, c4, f0, f1, f2, f3, f4⟩ := hI8.cells
            clear hI8 hB8 hK8
            go_wp2
            refine ⟨rfl, .tuple #[], results_none rfl _ _, ?_⟩
            exact ⟨rfl, HI8.out.setPos _, below_set HB8.out HX.out, K8.out.set 1 _⟩
          · have e9 : decide (p1 ≥ a3) = false := decide_eq_false h9
            unfold tickEnd at h
            rw [if_neg h9] at h
            obtain ⟨rfl, rfl, rfl, rfl, rfl, rfl, rfl, rfl, rfl, rfl⟩ : (2 : Int) = r1 ∧ p1 = r2 ∧ s2 = r3 ∧ s3 = r4 ∧ true = r5 ∧ q1 = r6 ∧ q2 = r7 ∧ q3 = r8 ∧ q4 = r9 ∧ q5 = r10 := by simpa using Option.some.inj h
            clear h
            go_wp2_with fail
            refine ⟨rfl, .tuple #[], results_none rfl _ _, ?_⟩
            exact ⟨rfl, ⟨HX.out, .inr ⟨rfl, gc, HG3.out, HC3.out⟩⟩, HB3.out, K3.out⟩
      · rw [if_neg h2] at h
        obtain ⟨rfl, rfl, rfl, rfl, rfl, rfl, rfl, rfl, rfl, rfl⟩ : s0 = r1 ∧ s1 = r2 ∧ s2 = r3 ∧ s3 = r4 ∧ s4 = r5 ∧ s5 = r6 ∧ s6 = r7 ∧ s7 = r8 ∧ s8 = r9 ∧ s9 = r10 := by simpa using Option.some.inj h
        have e2 : (s0 == 2) = false := by simp [h2]
        go_wp2_with fail
        refine ⟨rfl, .tuple #[], results_none rfl _ _, ?_⟩
        exact ⟨rfl, HI1.out, HB1.out, K1.out⟩
  · rw [if_neg hm] at h
    obtain ⟨rfl, rfl, rfl, rfl, rfl, rfl, rfl, rfl, rfl, rfl⟩ : s0 = r1 ∧ s1 = r2 ∧ s2 = r3 ∧ s3 = r4 ∧ s4 = r5 ∧ s5 = r6 ∧ s6 = r7 ∧ s7 = r8 ∧ s8 = r9 ∧ s9 = r10 := by simpa using Option.some.inj h
    have em : mayV a1 a2 a3 = false := by simpa using hm
    go_wp2_with fail
    refine ⟨rfl, .tuple #[], results_none rfl _ _, ?_⟩
    exact ⟨rfl, HI1.out, HB1.out, K1.out⟩
set_option maxHeartbeats 8000000 in
theorem deck_Deck_Pause.calls (g : Nat) (s0 s1 s2 s3 : Int) (s4 : Bool) (s5 s6 s7 s8 s9 : Int) (a1 : Int) (a2 : Int) (a3 : Int) (r1 : Int) (r2 r3 r4 r5 : Int) (r6 : Bool) (r7 r8 r9 r10 r11 : Int) (w0 w : World) (hI : IsS100 w0 w g s0 s1 s2 s3 s4 s5 s6 s7 s8 s9) (hB : Below w0.heap.size w0 w) (h : deck_Deck_Pause.f s0 s1 s2 s3 s4 s5 s6 s7 s8 s9 a1 a2 a3 = some (r1, r2, r3, r4, r5, r6, r7, r8, r9, r10, r11)) :
    Calls Tryd.prog 27 #[.pointer (some ⟨g, 0, none⟩), .int .u64 a1, .int .u64 a2, .int .u64 a3] w fun e w' => e = .returned (.int .i64 r1) ∧ IsS100 w0 w' g r2 r3 r4 r5 r6 r7 r8 r9 r10 r11 ∧ Below w0.heap.size w0 w' ∧ KeepD w w' g := by
  unfold deck_Deck_Pause.f at h
  have HI := Aside0.mk hI
  have HB := Aside0.mk hB
  clear hI hB
  go_enter Tryd.func27, Tryd.ntmps27
  go_wp2_with fail
  refine (deck_may.calls a1 a2 a3 (mayV a1 a2 a3) _ (may_eq _ _ _)).mono ?_
  rintro e1 w1 ⟨rfl, hd⟩
  have HI1 := Aside0.mk (HI.out.below hd.below)
  have HB1 := Aside0.mk (below_step HB.out hd.below)
  have K1 := Aside0.mk ((KeepD.refl w g).below hd.below)
  obtain ⟨p, hg, c0, c1, c2, c3, c4, f0, f1, f2, f3, f4⟩ := HI1.out.cells
  have HG := Aside0.mk hg
  clear hg hd
  by_cases hm : mayV a1 a2 a3 = true
  · rw [if_pos hm] at h
    by_cases h2 : s0 = 2
    · rw [if_pos h2] at h
      obtain ⟨⟨x1, x2, x3, x4, x5, x6, x7, x8, x9, x10⟩, hx, h⟩ := Option.bind_eq_some_iff.mp h
      have e2 : (s0 == 2) = true := by simp [h2]
      have HX := Aside0.mk hx
      clear hx
      dsimp only at h
      go_wp2_with fail
      refine (deck_Deck_Tick.calls g s0 s1 s2 s3 s4 s5 s6 s7 s8 s9 a1 a2 a3 x1 x2 x3 x4 x5 x6 x7 x8 x9 x10 w0 _ HI1.out HB1.out HX.out).mono ?_
      rintro e2 w2 ⟨rfl, hI2, hB2, hK2⟩
      clear c0 c1 c2 c3 c4 f0 f1 f2 f3 f4 HG
      obtain ⟨p2, -, c0, c1, c2, c3, c4, f0, f1, f2, f3, f4⟩ := hI2.cells
      have HI2 := Aside0.mk hI2
      have HB2 := Aside0.mk hB2
      have K2 := Aside0.mk (K1.out.trans hK2)
      clear hI2 hB2 hK2
      by_cases h8 : x1 = 0
      · have e8 : (x1 == 0) = true := by simp [h8]
        simp only [h8, if_true] at h
        obtain ⟨rfl, rfl, rfl, rfl, rfl, rfl, rfl, rfl, rfl, rfl, rfl⟩ : (0 : Int) = r1 ∧ (1 : Int) = r2 ∧ a3 = r3 ∧ x3 = r4 ∧ x4 = r5 ∧ false = r6 ∧ (0 : Int) = r7 ∧ (0 : Int) = r8 ∧ (0 : Int) = r9 ∧ (0 : Int) = r10 ∧ (0 : Int) = r11 := by simpa using Option.some.inj h
        clear h
        go_wp2_with fail
        refine (deck_Deck_pauses.calls g x1 x2 x3 x4 x5 x6 x7 x8 x9 x10 a3 1 a3 x3 x4 false 0 0 0 0 0 w0 _ HI2.out HB2.out rfl).mono ?_
        rintro e8 w8 ⟨rfl, hI8, hB8, hK8⟩
        have HI8 := Aside0.mk hI8
        have HB8 := Aside0.mk hB8
        have K8 := Aside0.mk (K2.out.trans hK8)
        clear hI8 hB8 hK8 c0 c1 c2 c3 c4 f0 f1 f2 f3 f4
        go_wp2
        go_ret
        exact ⟨rfl, HI8.out, HB8.out, K8.out⟩
      · have e8 : (x1 == 0) = false := by simp [h8]
        by_cases h9 : x1 = 2
        · have e9 : (x1 == 2) = true := by simp [h9]
          rw [if_neg h8, if_pos h9] at h
          obtain ⟨rfl, rfl, rfl, rfl, rfl, rfl, rfl, rfl, rfl, rfl, rfl⟩ : (0 : Int) = r1 ∧ (1 : Int) = r2 ∧ x2 = r3 ∧ x3 = r4 ∧ x4 = r5 ∧ false = r6 ∧ (0 : Int) = r7 ∧ (0 : Int) = r8 ∧ (0 : Int) = r9 ∧ (0 : Int) = r10 ∧ (0 : Int) = r11 := by simpa using Option.some.inj h
          clear h
          go_wp2_with fail
          refine (deck_Deck_pauses.calls g x1 x2 x3 x4 x5 x6 x7 x8 x9 x10 x2 1 x2 x3 x4 false 0 0 0 0 0 w0 _ HI2.out HB2.out rfl).mono ?_
          rintro e8 w8 ⟨rfl, hI8, hB8, hK8⟩
          have HI8 := Aside0.mk hI8
          have HB8 := Aside0.mk hB8
          have K8 := Aside0.mk (K2.out.trans hK8)
          clear hI8 hB8 hK8 c0 c1 c2 c3 c4 f0 f1 f2 f3 f4
          go_wp2
          go_ret
          exact ⟨rfl, HI8.out, HB8.out, K8.out⟩
        · have e9 : (x1 == 2) = false := by simp [h9]
          rw [if_neg h8, if_neg h9] at h
          obtain ⟨rfl, rfl, rfl, rfl, rfl, rfl, rfl, rfl, rfl, rfl, rfl⟩ : (0 : Int) = r1 ∧ x1 = r2 ∧ x2 = r3 ∧ x3 = r4 ∧ x4 = r5 ∧ x5 = r6 ∧ x6 = r7 ∧ x7 = r8 ∧ x8 = r9 ∧ x9 = r10 ∧ x10 = r11 := by simpa using Option.some.inj h
          clear h
          go_wp2_with fail
          go_ret
          exact ⟨rfl, HI2.out, HB2.out, K2.out⟩
    · rw [if_neg h2] at h
      have e2 : (s0 == 2) = false := by simp [h2]
      rw [Option.bind_some] at h
      dsimp only at h
      by_cases h8 : s0 = 0
      · have e8 : (s0 == 0) = true := by simp [h8]
        simp only [h8, if_true] at h
        obtain ⟨rfl, rfl, rfl, rfl, rfl, rfl, rfl, rfl, rfl, rfl, rfl⟩ : (0 : Int) = r1 ∧ (1 : Int) = r2 ∧ a3 = r3 ∧ s2 = r4 ∧ s3 = r5 ∧ false = r6 ∧ (0 : Int) = r7 ∧ (0 : Int) = r8 ∧ (0 : Int) = r9 ∧ (0 : Int) = r10 ∧ (0 : Int) = r11 := by simpa using Option.some.inj h
        clear h
        go_wp2_with fail
        refine (deck_Deck_pauses.calls g s0 s1 s2 s3 s4 s5 s6 s7 s8 s9 a3 1 a3 s2 s3 false 0 0 0 0 0 w0 _ HI1.out HB1.out rfl).mono ?_
        rintro e8 w8 ⟨rfl, hI8, hB8, hK8⟩
        have HI8 := Aside0.mk hI8
        have HB8 := Aside0.mk hB8
        have K8 := Aside0.mk (K1.out.trans hK8)
        clear hI8 hB8 hK8 c0 c1 c2 c3 c4 f0 f1 f2 f3 f4
        go_wp2
        go_ret
        exact ⟨rfl, HI8.out, HB8.out, K8.out⟩
      · have e8 : (s0 == 0) = false := by simp [h8]
        by_cases h9 : s0 = 2
        · have e9 : (s0 == 2) = true := by simp [h9]
          exact absurd h9 h2
        · have e9 : (s0 == 2) = false := by simp [h9]
          rw [if_neg h8, if_neg h9] at h
          obtain ⟨rfl, rfl, rfl, rfl, rfl, rfl, rfl, rfl, rfl, rfl, rfl⟩ : (0 : Int) = r1 ∧ s0 = r2 ∧ s1 = r3 ∧ s2 = r4 ∧ s3 = r5 ∧ s4 = r6 ∧ s5 = r7 ∧ s6 = r8 ∧ s7 = r9 ∧ s8 = r10 ∧ s9 = r11 := by simpa using Option.some.inj h
          clear h
          go_wp2_with fail
          go_ret
          exact ⟨rfl, HI1.out, HB1.out, K1.out⟩
  · rw [if_neg hm] at h
    obtain ⟨rfl, rfl, rfl, rfl, rfl, rfl, rfl, rfl, rfl, rfl, rfl⟩ : (1 : Int) = r1 ∧ s0 = r2 ∧ s1 = r3 ∧ s2 = r4 ∧ s3 = r5 ∧ s4 = r6 ∧ s5 = r7 ∧ s6 = r8 ∧ s7 = r9 ∧ s8 = r10 ∧ s9 = r11 := by simpa using Option.some.inj h
    have em : mayV a1 a2 a3 = false := by simpa using hm
    go_wp2_with fail
    go_ret
    exact ⟨rfl, HI1.out, HB1.out, K1.out⟩
end Go.Proofs.YtlgfmmkabnbllaaDoor.Hand
namespace Go.Proofs.YtlgfmmkabnbllaaDoor.Hand
open Go.RowKit Go.Proofs.YtlgfmmkabnbllaaDoorW.PrintWords Go.Proofs.YtlgfmmkabnbllaaDoorW.PrintLast Go.Proofs.YtlgfmmkabnbllaaDoorW.PrintMore Go.Proofs.YtlgfmmkabnbllaaDoor.PA Go.Proofs.YtlgfmmkabnbllaaDoor.PB Go.Proofs.YtlgfmmkabnbllaaDoor.PC Go.Proofs.YtlgfmmkabnbllaaDoor.PM
set_option linter.unusedSimpArgs false
set_option linter.unusedVariables false
def deck_Deck_Speed.f (k : Nat) (s0 s1 s2 s3 : Int) (s4 : Bool) (s5 s6 s7 s8 s9 a1 : Int) (a2 : Nat) : Option (Int × DSt) :=
  (rate_Of.f a2).bind fun o =>
    if o.2.2 = 0 then
      if a1 > 4611686018427387904 then some (1, s0, s1, s2, s3, s4, s5, s6, s7, s8, s9)
      else if s0 = 2 then
        if s4 = true then (clock_Clock_Turn.f k s5 s6 s7 s8 s9 a1 o.1 o.2.1).bind fun q => some (0, s0, s1, o.1, o.2.1, true, q.2.1, q.2.2.1, q.2.2.2.1, q.2.2.2.2.1, q.2.2.2.2.2)
        else none
      else some (0, s0, s1, o.1, o.2.1, s4, s5, s6, s7, s8, s9)
    else some (o.2.2, s0, s1, s2, s3, s4, s5, s6, s7, s8, s9)
theorem deck_Deck_Speed.mono : ∀ s0 s1 s2 s3 s4 s5 s6 s7 s8 s9 a1 a2 k, LeO (deck_Deck_Speed.f k s0 s1 s2 s3 s4 s5 s6 s7 s8 s9 a1 a2) (deck_Deck_Speed.f (k + 1) s0 s1 s2 s3 s4 s5 s6 s7 s8 s9 a1 a2) := by
  intro s0 s1 s2 s3 s4 s5 s6 s7 s8 s9 a1 a2 k
  unfold deck_Deck_Speed.f
  repeat' first
    | (with_reducible exact clock_Clock_Turn.mono _ _ _ _ _ _ _ _ _)
    | (with_reducible exact LeO.refl _)
    | (with_reducible exact LeO.none _)
    | (with_reducible refine LeO.ite ?_ ?_)
    | (with_reducible refine LeO.bind ?_ (fun _ => ?_))
theorem IsS100.setRate {w0 w : World} {g : Nat} {s0 s1 s2 s3 : Int} {s4 : Bool} {s5 s6 s7 s8 s9 : Int} (h : IsS100 w0 w g s0 s1 s2 s3 s4 s5 s6 s7 s8 s9) (n d : Int) : IsS100 w0 ((w.setCell ⟨g, 2, none⟩ (.int .u64 n)).setCell ⟨g, 3, none⟩ (.int .u64 d)) g s0 s1 n d s4 s5 s6 s7 s8 s9 := by
  obtain ⟨h0, ⟨h3, h⟩ | ⟨h3, gc, h, hc⟩⟩ := h
  · exact ⟨h0, .inl ⟨h3, blk_put (cs := dcells s0 s1 n s3 (.pointer none)) (cs' := dcells s0 s1 n d (.pointer none)) (blk_put (cs := dcells s0 s1 s2 s3 (.pointer none)) (cs' := dcells s0 s1 n s3 (.pointer none)) h 2 (.int .u64 n) rfl) 3 (.int .u64 d) rfl⟩⟩
  · exact ⟨h0, .inr ⟨h3, gc, blk_put (cs := dcells s0 s1 n s3 (.pointer (some ⟨gc, 0, none⟩))) (cs' := dcells s0 s1 n d (.pointer (some ⟨gc, 0, none⟩))) (blk_put (cs := dcells s0 s1 s2 s3 (.pointer (some ⟨gc, 0, none⟩))) (cs' := dcells s0 s1 n s3 (.pointer (some ⟨gc, 0, none⟩))) h 2 (.int .u64 n) rfl) 3 (.int .u64 d) rfl, (hc.far (p := ⟨g, 2, none⟩) (blk_ne hc.1 h (by decide)) _).far (p := ⟨g, 3, none⟩) (blk_ne hc.1 h (by decide)) _⟩⟩
set_option maxHeartbeats 8000000 in
set_option maxRecDepth 100000 in
theorem deck_Deck_Speed.calls (k : Nat) (g : Nat) (s0 s1 s2 s3 : Int) (s4 : Bool) (s5 s6 s7 s8 s9 : Int) (a1 : Int) (a2 : Nat) (r1 : Int) (r2 r3 r4 r5 : Int) (r6 : Bool) (r7 r8 r9 r10 r11 : Int) (w0 w : World) (hI : IsS100 w0 w g s0 s1 s2 s3 s4 s5 s6 s7 s8 s9) (hB : Below w0.heap.size w0 w) (hT : TabW w) (h : deck_Deck_Speed.f k s0 s1 s2 s3 s4 s5 s6 s7 s8 s9 a1 a2 = some (r1, r2, r3, r4, r5, r6, r7, r8, r9, r10, r11)) :
    Calls Tryd.prog 21 #[.pointer (some ⟨g, 0, none⟩), .int .u64 a1, .float .f64 a2] w fun e w' => e = .returned (.int .i64 r1) ∧ IsS100 w0 w' g r2 r3 r4 r5 r6 r7 r8 r9 r10 r11 ∧ Below w0.heap.size w0 w' ∧ KeepD w w' g := by
  unfold deck_Deck_Speed.f at h
  obtain ⟨⟨n, d, e⟩, ho, h'⟩ := Option.bind_eq_some_iff.mp h
  clear h
  have h := h'
  clear h'
  dsimp only at h
  have HI := Aside0.mk hI
  have HB := Aside0.mk hB
  have HT := Aside0.mk hT
  have HO := Aside0.mk ho
  clear hI hB hT ho
  go_enter Tryd.func21, Tryd.ntmps21
  go_wp2_with fail
  refine (rate_Of.calls a2 n d e _ HT.out HO.out).mono ?_
  rintro e1 w1 ⟨rfl, hd⟩
  have HI1 := Aside0.mk (HI.out.below hd)
  have HB1 := Aside0.mk (below_step HB.out hd)
  have K1 := Aside0.mk ((KeepD.refl w g).below hd)
  have hIa := HI1.out.alloc (.cells #[.int .u64 n, .int .u64 d] 30 (0, 0))
  have hbox := blk_new w1 (.cells #[.int .u64 n, .int .u64 d] 30 (0, 0))
  have hBa := below_alloc HB1.out (.cells #[.int .u64 n, .int .u64 d] 30 (0, 0))
  have hKa := K1.out.below (below_alloc (Below.refl _ _) (.cells #[.int .u64 n, .int .u64 d] 30 (0, 0)))
  obtain ⟨p, hg, c0, c1, c2, c3, c4, f0, f1, f2, f3, f4⟩ := hIa.cells
  have HG := Aside0.mk hg
  have HBX := Aside0.mk hbox
  have HIA := Aside0.mk hIa
  have HBA := Aside0.mk hBa
  have KA := Aside0.mk hKa
  have b0 : (w1.alloc (.cells #[.int .u64 n, .int .u64 d] 30 (0, 0))).cell? ⟨w1.heap.size, 0, none⟩ = some (.int .u64 n) := (blk_cell hbox 0).trans rfl
  have b1 : (w1.alloc (.cells #[.int .u64 n, .int .u64 d] 30 (0, 0))).cell? ⟨w1.heap.size, 1, none⟩ = some (.int .u64 d) := (blk_cell hbox 1).trans rfl
  have hgb : g ≠ w1.heap.size := Nat.ne_of_lt HI1.out.lt
  clear hIa hBa hKa hg hbox hd
  by_cases h0 : e = 0
  · rw [if_pos h0] at h
    have e0 : (e == 0) = true := by simp [h0]
    by_cases h1 : a1 > 4611686018427387904
    · rw [if_pos h1] at h
      have e1 : decide (a1 > 4611686018427387904) = true := decide_eq_true h1
      obtain ⟨rfl, rfl, rfl, rfl, rfl, rfl, rfl, rfl, rfl, rfl, rfl⟩ : (1 : Int) = r1 ∧ s0 = r2 ∧ s1 = r3 ∧ s2 = r4 ∧ s3 = r5 ∧ s4 = r6 ∧ s5 = r7 ∧ s6 = r8 ∧ s7 = r9 ∧ s8 = r10 ∧ s9 = r11 := by simpa using Option.some.inj h
      go_wp2_with fail
      go_ret
      exact ⟨rfl, HIA.out, HBA.out, KA.out⟩
    · rw [if_neg h1] at h
      have e1 : decide (a1 > 4611686018427387904) = false := decide_eq_false h1
      by_cases h2 : s0 = 2
      · rw [if_pos h2] at h
        have e2 : (s0 == 2) = true := by simp [h2]
        by_cases h4 : s4 = true
        case neg => rw [if_neg h4] at h; cases h
        rw [if_pos h4] at h
        subst h4
        subst h2
        obtain ⟨⟨p2, u1, u2, u3, u4, u5⟩, htu, h'⟩ := Option.bind_eq_some_iff.mp h
        clear h
        have h := h'
        clear h'
        have HTU := Aside0.mk htu
        clear htu
        dsimp only at h
        obtain ⟨rfl, rfl, rfl, rfl, rfl, rfl, rfl, rfl, rfl, rfl, rfl⟩ : (0 : Int) = r1 ∧ (2 : Int) = r2 ∧ s1 = r3 ∧ n = r4 ∧ d = r5 ∧ true = r6 ∧ u1 = r7 ∧ u2 = r8 ∧ u3 = r9 ∧ u4 = r10 ∧ u5 = r11 := by simpa using Option.some.inj h
        clear h
        go_wp2_with fail
        have HI3 := Aside0.mk (HIA.out.setRate n d)
        have HB3 := Aside0.mk (below_set (j := 3) (v := .int .u64 d) (below_set (j := 2) (v := .int .u64 n) HBA.out HIA.out.ge) HIA.out.ge)
        have K3 := Aside0.mk ((KA.out.set 2 (.int .u64 n)).set 3 (.int .u64 d))
        have HBX3 := Aside0.mk (blk_far (p := ⟨g, 3, none⟩) (blk_far (p := ⟨g, 2, none⟩) HBX.out hgb.symm (.int .u64 n)) hgb.symm (.int .u64 d))
        clear c0 c1 c2 c3 c4 f0 f1 f2 f3 f4 b0 b1 HIA HBA KA HBX HG
        generalize ((w1.alloc (.cells #[.int .u64 n, .int .u64 d] 30 (0, 0))).setCell ⟨g, 2, none⟩ (.int .u64 n)).setCell ⟨g, 3, none⟩ (.int .u64 d) = w3 at *
        obtain ⟨hx, ⟨hy, _⟩ | ⟨_, gc, hg, hc⟩⟩ := HI3.out
        · cases hy
        have hne : g ≠ gc := blk_ne hg hc.1 (by decide)
        obtain ⟨c0, c1, c2, c3, c4, f0, f1, f2, f3, f4⟩ := dcell hg
        have b0 : w3.cell? ⟨w1.heap.size, 0, none⟩ = some (.int .u64 n) := (blk_cell HBX3.out 0).trans rfl
        have b1 : w3.cell? ⟨w1.heap.size, 1, none⟩ = some (.int .u64 d) := (blk_cell HBX3.out 1).trans rfl
        have fb0 := blk_frozen HBX3.out 0
        have fb1 := blk_frozen HBX3.out 1
        have HG := Aside0.mk hg
        have HC := Aside0.mk hc
        have HN := Aside0.mk hne
        have HX := Aside0.mk hx
        clear hg hc hne hx
        go_still_tail 6, (by kernel_rfl)
        change wpList _ _ _ _ _ w3.drew
        go_wp2_with fail
        refine (clock_Clock_Turn.calls k gc s5 s6 s7 s8 s9 a1 n d p2 u1 u2 u3 u4 u5 w0 _ (HC.out.drew) (below_drew1 HB3.out) HTU.out).mono ?_
        rintro e2 w2 ⟨rfl, hc, hb, hk⟩
        have hg := KeepBut.blk hk (blk_drew HG.out) HN.out (by simp)
        have hk' := (KeepD.drew K3.out).but (blk_drew HC.out.1) hk
        clear c0 c1 c2 c3 c4 f0 f1 f2 f3 f4 b0 b1 fb0 fb1
        have HG9 := Aside0.mk hg
        have HC9 := Aside0.mk hc
        have HB9 := Aside0.mk hb
        have HK9 := Aside0.mk hk'
        clear hg hc hb hk hk'
        go_wp2
        go_ret
        exact ⟨rfl, ⟨HX.out, .inr ⟨rfl, gc, HG9.out, HC9.out⟩⟩, HB9.out, HK9.out⟩
      · rw [if_neg h2] at h
        have e2 : (s0 == 2) = false := by simp [h2]
        obtain ⟨rfl, rfl, rfl, rfl, rfl, rfl, rfl, rfl, rfl, rfl, rfl⟩ : (0 : Int) = r1 ∧ s0 = r2 ∧ s1 = r3 ∧ n = r4 ∧ d = r5 ∧ s4 = r6 ∧ s5 = r7 ∧ s6 = r8 ∧ s7 = r9 ∧ s8 = r10 ∧ s9 = r11 := by simpa using Option.some.inj h
        go_wp2_with fail
        go_ret
        exact ⟨rfl, HIA.out.setRate n d, below_set (below_set HBA.out HIA.out.ge) HIA.out.ge, (KA.out.set 2 _).set 3 _⟩
  · rw [if_neg h0] at h
    have e0 : (e == 0) = false := by simp [h0]
    obtain ⟨rfl, rfl, rfl, rfl, rfl, rfl, rfl, rfl, rfl, rfl, rfl⟩ : e = r1 ∧ s0 = r2 ∧ s1 = r3 ∧ s2 = r4 ∧ s3 = r5 ∧ s4 = r6 ∧ s5 = r7 ∧ s6 = r8 ∧ s7 = r9 ∧ s8 = r10 ∧ s9 = r11 := by simpa using Option.some.inj h
    go_wp2_with fail
    go_ret
    exact ⟨rfl, HIA.out, HBA.out, KA.out⟩
end Go.Proofs.YtlgfmmkabnbllaaDoor.Hand
namespace Go.Proofs.YtlgfmmkabnbllaaDoor.PT
open Go.RowKit Go.Proofs.YtlgfmmkabnbllaaDoorW.PrintWords Go.Proofs.YtlgfmmkabnbllaaDoorW.PrintLast Go.Proofs.YtlgfmmkabnbllaaDoorW.PrintMore Go.Proofs.YtlgfmmkabnbllaaDoor.Hand
set_option linter.unusedSimpArgs false
set_option linter.unusedVariables false
abbrev KeepBut (w w' : World) (g : Nat) (row : Option Nat) : Prop := KeepD w w' g
theorem KeepBut.refl (w : World) (g : Nat) (row : Option Nat) : KeepBut w w g row := KeepD.refl w g
theorem KeepBut.of_below {w w1 : World} (h : Below w.heap.size w w1) (g : Nat) (row : Option Nat) : KeepBut w w1 g row := (KeepD.refl w g).below h
theorem KeepBut.trans {w w1 w2 : World} {g : Nat} {row row1 : Option Nat} (h : KeepBut w w1 g row) (k : KeepBut w1 w2 g row1) (hr : row1 = row ∨ ∃ b, row1 = some b ∧ w.heap.size ≤ b) : KeepBut w w2 g row := KeepD.trans h k
theorem KeepBut.blk {w w1 : World} {g g' : Nat} {o : Obj} (h : KeepD w w1 g) (hb : w.heap[g']? = some o) (hg : g' ≠ g) (hr : notC o = true) : w1.heap[g']? = some o := h.keep g' o hb hg hr
def Typ (W : World) (b : Nat) : Prop := ∃ cs t, W.heap[b]? = some (.cells cs t (0, 0)) ∧ t ≠ 100 ∧ t ≠ 138
end Go.Proofs.YtlgfmmkabnbllaaDoor.PT
namespace Go.Proofs.YtlgfmmkabnbllaaDoor.PF
open Go.RowKit Go.Proofs.YtlgfmmkabnbllaaDoorW.PrintWords Go.Proofs.YtlgfmmkabnbllaaDoorW.PrintLast Go.Proofs.YtlgfmmkabnbllaaDoorW.PrintMore
attribute [local go_sem] max2_int min2_int max_two min_two max_three min_three max_four min_four
open Go.Proofs.YtlgfmmkabnbllaaDoor.Hand
open Go.Proofs.YtlgfmmkabnbllaaDoor.PA
open Go.Proofs.YtlgfmmkabnbllaaDoor.PB
open Go.Proofs.YtlgfmmkabnbllaaDoor.PC
open Go.Proofs.YtlgfmmkabnbllaaDoor.PM
set_option linter.unusedVariables false
set_option linter.unusedSimpArgs false
def errW : Option Int → Value
  | none => .nilIface
  | some c => .iface 0 (.int .i64 c)
theorem errW_none : errW none = .nilIface := rfl
theorem errW_some (c : Int) : errW (some c) = .iface 0 (.int .i64 c) := rfl
end Go.Proofs.YtlgfmmkabnbllaaDoor.PF
namespace Go.Proofs.YtlgfmmkabnbllaaDoor.PF
open Go.RowKit Go.Proofs.YtlgfmmkabnbllaaDoorW.PrintWords Go.Proofs.YtlgfmmkabnbllaaDoorW.PrintLast Go.Proofs.YtlgfmmkabnbllaaDoorW.PrintMore
attribute [local go_sem] max2_int min2_int max_two min_two max_three min_three max_four min_four
open Go.Proofs.YtlgfmmkabnbllaaDoor.Hand
open Go.Proofs.YtlgfmmkabnbllaaDoor.PA
open Go.Proofs.YtlgfmmkabnbllaaDoor.PB
open Go.Proofs.YtlgfmmkabnbllaaDoor.PC
open Go.Proofs.YtlgfmmkabnbllaaDoor.PM
set_option linter.unusedVariables false
set_option linter.unusedSimpArgs false
theorem eqA30 (d : Nat) (w : World) (x0 y0 : Int) (x1 y1 : Int) :
    (Op.equalIn (d + 2) 30 (.agg #[.int .u64 x0, .int .u64 x1]) (.agg #[.int .u64 y0, .int .u64 y1])).run Tryd.prog w = .ok (x0 == y0 && (x1 == y1)) w := by
  refine eqA_of Tryd.underlying30 (by kernel_rfl) ?_
  refine eqf_cons (by rfl) (by go_simp; rfl) (by go_simp; rfl) (by go_simp) ?_
  exact eqf_last (by rfl) (by go_simp; rfl) (by go_simp; rfl) (by go_simp)
end Go.Proofs.YtlgfmmkabnbllaaDoor.PF
namespace Go.Proofs.YtlgfmmkabnbllaaDoor.PF
open Go.RowKit Go.Proofs.YtlgfmmkabnbllaaDoorW.PrintWords Go.Proofs.YtlgfmmkabnbllaaDoorW.PrintLast Go.Proofs.YtlgfmmkabnbllaaDoorW.PrintMore
attribute [local go_sem] max2_int min2_int max_two min_two max_three min_three max_four min_four
open Go.Proofs.YtlgfmmkabnbllaaDoor.Hand
open Go.Proofs.YtlgfmmkabnbllaaDoor.PA
open Go.Proofs.YtlgfmmkabnbllaaDoor.PB
open Go.Proofs.YtlgfmmkabnbllaaDoor.PC
open Go.Proofs.YtlgfmmkabnbllaaDoor.PM
set_option linter.unusedVariables false
set_option linter.unusedSimpArgs false
attribute [local go_sem high] eqA30
def tiklaw23_first.j0 : Nat → Bool → Int → Int → Int → Int → Bool → Int → Int → Int → Int → Int → Option (Bool)
  | 0, _, _, _, _, _, _, _, _, _, _, _ => none
  | k + 1, x19, x112000, x112001, x112002, x112003, x112004, x112005, x112006, x112007, x112008, x112009 => if x19 = true then (some false) else ((deck_Deck_Mode.f x112000 x112001 x112002 x112003 x112004 x112005 x112006 x112007 x112008 x112009).bind fun bt145 => (if bt145.1 = 1 then ((deck_Deck_Pos.f bt145.2.1 bt145.2.2.1 bt145.2.2.2.1 bt145.2.2.2.2.1 bt145.2.2.2.2.2.1 bt145.2.2.2.2.2.2.1 bt145.2.2.2.2.2.2.2.1 bt145.2.2.2.2.2.2.2.2.1 bt145.2.2.2.2.2.2.2.2.2.1 bt145.2.2.2.2.2.2.2.2.2.2).bind fun bt156 => (if bt156.1 = 9 then ((deck_Deck_Seek.f bt156.2.1 bt156.2.2.1 bt156.2.2.2.1 bt156.2.2.2.2.1 bt156.2.2.2.2.2.1 bt156.2.2.2.2.2.2.1 bt156.2.2.2.2.2.2.2.1 bt156.2.2.2.2.2.2.2.2.1 bt156.2.2.2.2.2.2.2.2.2.1 bt156.2.2.2.2.2.2.2.2.2.2 5 2 9 1).bind fun bt167 => (if bt167.1 = 12 then ((rate_From.f 9221120237041090560).bind fun t178 => ((deck_Deck_Speed.f k bt167.2.1 bt167.2.2.1 bt167.2.2.2.1 bt167.2.2.2.2.1 bt167.2.2.2.2.2.1 bt167.2.2.2.2.2.2.1 bt167.2.2.2.2.2.2.2.1 bt167.2.2.2.2.2.2.2.2.1 bt167.2.2.2.2.2.2.2.2.2.1 bt167.2.2.2.2.2.2.2.2.2.2 5 t178).bind fun bt179 => (if bt179.1 = 10 then ((deck_Deck_Rate.f bt179.2.1 bt179.2.2.1 bt179.2.2.2.1 bt179.2.2.2.2.1 bt179.2.2.2.2.2.1 bt179.2.2.2.2.2.2.1 bt179.2.2.2.2.2.2.2.1 bt179.2.2.2.2.2.2.2.2.1 bt179.2.2.2.2.2.2.2.2.2.1 bt179.2.2.2.2.2.2.2.2.2.2).bind fun bt190 => (some (bt190.1 == 1 && (bt190.2.1 == 1)))) else (some false)))) else (some false))) else (some false))) else (some false)))
def tiklaw23_first.f (k : Nat)  : Option (Bool) := (deck_New.f).bind fun bt101 => (if false = true then (tiklaw23_first.j0 k true bt101.1 bt101.2.1 bt101.2.2.1 bt101.2.2.2.1 bt101.2.2.2.2.1 bt101.2.2.2.2.2.1 bt101.2.2.2.2.2.2.1 bt101.2.2.2.2.2.2.2.1 bt101.2.2.2.2.2.2.2.2.1 bt101.2.2.2.2.2.2.2.2.2) else ((deck_Deck_Mode.f bt101.1 bt101.2.1 bt101.2.2.1 bt101.2.2.2.1 bt101.2.2.2.2.1 bt101.2.2.2.2.2.1 bt101.2.2.2.2.2.2.1 bt101.2.2.2.2.2.2.2.1 bt101.2.2.2.2.2.2.2.2.1 bt101.2.2.2.2.2.2.2.2.2).bind fun bt112 => (if bt112.1 = 0 then ((deck_Deck_Play.f bt112.2.1 bt112.2.2.1 bt112.2.2.2.1 bt112.2.2.2.2.1 bt112.2.2.2.2.2.1 bt112.2.2.2.2.2.2.1 bt112.2.2.2.2.2.2.2.1 bt112.2.2.2.2.2.2.2.2.1 bt112.2.2.2.2.2.2.2.2.2.1 bt112.2.2.2.2.2.2.2.2.2.2 5 0 9).bind fun bt123 => (if bt123.1 = 13 then ((deck_Deck_Pause.f bt123.2.1 bt123.2.2.1 bt123.2.2.2.1 bt123.2.2.2.2.1 bt123.2.2.2.2.2.1 bt123.2.2.2.2.2.2.1 bt123.2.2.2.2.2.2.2.1 bt123.2.2.2.2.2.2.2.2.1 bt123.2.2.2.2.2.2.2.2.2.1 bt123.2.2.2.2.2.2.2.2.2.2 5 0 9).bind fun bt134 => (tiklaw23_first.j0 k (bt134.1 != 0) bt134.2.1 bt134.2.2.1 bt134.2.2.2.1 bt134.2.2.2.2.1 bt134.2.2.2.2.2.1 bt134.2.2.2.2.2.2.1 bt134.2.2.2.2.2.2.2.1 bt134.2.2.2.2.2.2.2.2.1 bt134.2.2.2.2.2.2.2.2.2.1 bt134.2.2.2.2.2.2.2.2.2.2)) else (tiklaw23_first.j0 k true bt123.2.1 bt123.2.2.1 bt123.2.2.2.1 bt123.2.2.2.2.1 bt123.2.2.2.2.2.1 bt123.2.2.2.2.2.2.1 bt123.2.2.2.2.2.2.2.1 bt123.2.2.2.2.2.2.2.2.1 bt123.2.2.2.2.2.2.2.2.2.1 bt123.2.2.2.2.2.2.2.2.2.2))) else (tiklaw23_first.j0 k true bt112.2.1 bt112.2.2.1 bt112.2.2.2.1 bt112.2.2.2.2.1 bt112.2.2.2.2.2.1 bt112.2.2.2.2.2.2.1 bt112.2.2.2.2.2.2.2.1 bt112.2.2.2.2.2.2.2.2.1 bt112.2.2.2.2.2.2.2.2.2.1 bt112.2.2.2.2.2.2.2.2.2.2))))
theorem tiklaw23_first.mono_l : ∀ k, (∀ y0 y1 y2 y3 y4 y5 y6 y7 y8 y9 y10, LeO (tiklaw23_first.j0 k y0 y1 y2 y3 y4 y5 y6 y7 y8 y9 y10) (tiklaw23_first.j0 (k + 1) y0 y1 y2 y3 y4 y5 y6 y7 y8 y9 y10))
  | 0 => fun _ _ _ _ _ _ _ _ _ _ _ r h => by simp [tiklaw23_first.j0] at h
  | k + 1 => by
    have ih0 := tiklaw23_first.mono_l k
    · intro y0 y1 y2 y3 y4 y5 y6 y7 y8 y9 y10
      unfold tiklaw23_first.j0
      repeat' first
      | (with_reducible exact ih0 _ _ _ _ _ _ _ _ _ _ _)
      | (with_reducible exact deck_Deck_Speed.mono _ _ _ _ _ _ _ _ _ _ _ _ _)
      | (with_reducible exact LeO.refl _)
      | (with_reducible exact LeO.none _)
      | (with_reducible refine LeO.ite ?_ ?_)
      | (with_reducible refine LeO.bind ?_ (fun _ => ?_))
      | exact ih0 _ _ _ _ _ _ _ _ _ _ _
      | exact deck_Deck_Speed.mono _ _ _ _ _ _ _ _ _ _ _ _ _
      | exact LeO.none _
      | refine LeO.ite ?_ ?_
      | refine LeO.bind ?_ (fun _ => ?_)
theorem tiklaw23_first.mono : ∀ k, LeO (tiklaw23_first.f k ) (tiklaw23_first.f (k + 1) ) := by
  intro  k
  have ih0 := tiklaw23_first.mono_l k
  unfold tiklaw23_first.f
  repeat' first
      | (with_reducible exact ih0 _ _ _ _ _ _ _ _ _ _ _)
      | (with_reducible exact deck_Deck_Speed.mono _ _ _ _ _ _ _ _ _ _ _ _ _)
      | (with_reducible exact LeO.refl _)
      | (with_reducible exact LeO.none _)
      | (with_reducible refine LeO.ite ?_ ?_)
      | (with_reducible refine LeO.bind ?_ (fun _ => ?_))
      | exact ih0 _ _ _ _ _ _ _ _ _ _ _
      | exact deck_Deck_Speed.mono _ _ _ _ _ _ _ _ _ _ _ _ _
      | exact LeO.none _
      | refine LeO.ite ?_ ?_
      | refine LeO.bind ?_ (fun _ => ?_)
set_option maxHeartbeats 8000000 in
set_option maxRecDepth 100000 in
theorem tiklaw23_first.calls (k : Nat)  (r : Bool) (w : World) (hT : TabW w) (h : tiklaw23_first.f k  = some r) :
    Calls Tryd.prog 12 #[] w fun e w' => e = .returned (.bool r) ∧ Below w.heap.size w w' := by
  have HT := Aside0.mk hT
  clear hT
  have hu30 := Tryd.underlying30
  have HB := Aside0.mk (Below.refl w.heap.size w)
  have H : ((deck_New.f).bind fun bt101 => (if false = true then (tiklaw23_first.j0 k true bt101.1 bt101.2.1 bt101.2.2.1 bt101.2.2.2.1 bt101.2.2.2.2.1 bt101.2.2.2.2.2.1 bt101.2.2.2.2.2.2.1 bt101.2.2.2.2.2.2.2.1 bt101.2.2.2.2.2.2.2.2.1 bt101.2.2.2.2.2.2.2.2.2) else ((deck_Deck_Mode.f bt101.1 bt101.2.1 bt101.2.2.1 bt101.2.2.2.1 bt101.2.2.2.2.1 bt101.2.2.2.2.2.1 bt101.2.2.2.2.2.2.1 bt101.2.2.2.2.2.2.2.1 bt101.2.2.2.2.2.2.2.2.1 bt101.2.2.2.2.2.2.2.2.2).bind fun bt112 => (if bt112.1 = 0 then ((deck_Deck_Play.f bt112.2.1 bt112.2.2.1 bt112.2.2.2.1 bt112.2.2.2.2.1 bt112.2.2.2.2.2.1 bt112.2.2.2.2.2.2.1 bt112.2.2.2.2.2.2.2.1 bt112.2.2.2.2.2.2.2.2.1 bt112.2.2.2.2.2.2.2.2.2.1 bt112.2.2.2.2.2.2.2.2.2.2 5 0 9).bind fun bt123 => (if bt123.1 = 13 then ((deck_Deck_Pause.f bt123.2.1 bt123.2.2.1 bt123.2.2.2.1 bt123.2.2.2.2.1 bt123.2.2.2.2.2.1 bt123.2.2.2.2.2.2.1 bt123.2.2.2.2.2.2.2.1 bt123.2.2.2.2.2.2.2.2.1 bt123.2.2.2.2.2.2.2.2.2.1 bt123.2.2.2.2.2.2.2.2.2.2 5 0 9).bind fun bt134 => (tiklaw23_first.j0 k (bt134.1 != 0) bt134.2.1 bt134.2.2.1 bt134.2.2.2.1 bt134.2.2.2.2.1 bt134.2.2.2.2.2.1 bt134.2.2.2.2.2.2.1 bt134.2.2.2.2.2.2.2.1 bt134.2.2.2.2.2.2.2.2.1 bt134.2.2.2.2.2.2.2.2.2.1 bt134.2.2.2.2.2.2.2.2.2.2)) else (tiklaw23_first.j0 k true bt123.2.1 bt123.2.2.1 bt123.2.2.2.1 bt123.2.2.2.2.1 bt123.2.2.2.2.2.1 bt123.2.2.2.2.2.2.1 bt123.2.2.2.2.2.2.2.1 bt123.2.2.2.2.2.2.2.2.1 bt123.2.2.2.2.2.2.2.2.2.1 bt123.2.2.2.2.2.2.2.2.2.2))) else (tiklaw23_first.j0 k true bt112.2.1 bt112.2.2.1 bt112.2.2.2.1 bt112.2.2.2.2.1 bt112.2.2.2.2.2.1 bt112.2.2.2.2.2.2.1 bt112.2.2.2.2.2.2.2.1 bt112.2.2.2.2.2.2.2.2.1 bt112.2.2.2.2.2.2.2.2.2.1 bt112.2.2.2.2.2.2.2.2.2.2))))) = some r := h
  clear h
  replace H := Option.bind_eq_some_iff.mp H
  obtain ⟨⟨t101, t102, t103, t104, t105, t106, t107, t108, t109, t110⟩, A10, H⟩ := H
  replace H : (if false = true then (tiklaw23_first.j0 k true t101 t102 t103 t104 t105 t106 t107 t108 t109 t110) else ((deck_Deck_Mode.f t101 t102 t103 t104 t105 t106 t107 t108 t109 t110).bind fun bt112 => (if bt112.1 = 0 then ((deck_Deck_Play.f bt112.2.1 bt112.2.2.1 bt112.2.2.2.1 bt112.2.2.2.2.1 bt112.2.2.2.2.2.1 bt112.2.2.2.2.2.2.1 bt112.2.2.2.2.2.2.2.1 bt112.2.2.2.2.2.2.2.2.1 bt112.2.2.2.2.2.2.2.2.2.1 bt112.2.2.2.2.2.2.2.2.2.2 5 0 9).bind fun bt123 => (if bt123.1 = 13 then ((deck_Deck_Pause.f bt123.2.1 bt123.2.2.1 bt123.2.2.2.1 bt123.2.2.2.2.1 bt123.2.2.2.2.2.1 bt123.2.2.2.2.2.2.1 bt123.2.2.2.2.2.2.2.1 bt123.2.2.2.2.2.2.2.2.1 bt123.2.2.2.2.2.2.2.2.2.1 bt123.2.2.2.2.2.2.2.2.2.2 5 0 9).bind fun bt134 => (tiklaw23_first.j0 k (bt134.1 != 0) bt134.2.1 bt134.2.2.1 bt134.2.2.2.1 bt134.2.2.2.2.1 bt134.2.2.2.2.2.1 bt134.2.2.2.2.2.2.1 bt134.2.2.2.2.2.2.2.1 bt134.2.2.2.2.2.2.2.2.1 bt134.2.2.2.2.2.2.2.2.2.1 bt134.2.2.2.2.2.2.2.2.2.2)) else (tiklaw23_first.j0 k true bt123.2.1 bt123.2.2.1 bt123.2.2.2.1 bt123.2.2.2.2.1 bt123.2.2.2.2.2.1 bt123.2.2.2.2.2.2.1 bt123.2.2.2.2.2.2.2.1 bt123.2.2.2.2.2.2.2.2.1 bt123.2.2.2.2.2.2.2.2.2.1 bt123.2.2.2.2.2.2.2.2.2.2))) else (tiklaw23_first.j0 k true bt112.2.1 bt112.2.2.1 bt112.2.2.2.1 bt112.2.2.2.2.1 bt112.2.2.2.2.2.1 bt112.2.2.2.2.2.2.1 bt112.2.2.2.2.2.2.2.1 bt112.2.2.2.2.2.2.2.2.1 bt112.2.2.2.2.2.2.2.2.2.1 bt112.2.2.2.2.2.2.2.2.2.2)))) = some r := H
  have A1 := Aside0.mk A10
  clear A10
  have HC2 := Aside0.mk H
  clear H
  go_enter Tryd.func12, Tryd.ntmps12
  go_upto_region 2 with (first | ((with_reducible refine gate_callee (f := 13) rfl ?_); refine goesL_ (some 2) rfl rfl Tryd.func13 (by kernel_rfl) rfl #[] rfl (by (try simp only [List.map_toArray, List.map_cons, List.map_nil]); first | done | rfl | (simp only [List.length_drop, List.length_take]; rfl)) ?_; (with_reducible refine (deck_New.calls  t101 t102 t103 t104 t105 t106 t107 t108 t109 t110 w _ ?side1 A1.out).mono ?_); (case side1 => repeat (first | (with_reducible first | exact HB.out | apply below_alloc | apply pw_below_drewN | apply below_drew1) | exact HB.out)); rintro e w3 ⟨g111, rfl, hi, hb, hb2, hnew⟩; refine ⟨_, rfl, ?_⟩; have n0_ := Aside0.mk (hb); have n1_ := Aside0.mk (hi); clear HB; have HB := n0_; have HI111 := n1_; clear n0_ n1_; (try clear hb); (try clear hb2); (try clear hk); (try clear hi)))
  (try simp only [Act.put, List.setIfInBounds_toArray, List.set_cons_zero, List.set_cons_succ])
  go_cut [19] (fun v19 wc => ∃ (kq : Nat) (x19_1 : Bool) (x112000_1 : Int) (x112001_1 : Int) (x112002_1 : Int) (x112003_1 : Int) (x112004_1 : Bool) (x112005_1 : Int) (x112006_1 : Int) (x112007_1 : Int) (x112008_1 : Int) (x112009_1 : Int), v19 = .bool x19_1 ∧ Aside0 (tiklaw23_first.j0 kq x19_1 x112000_1 x112001_1 x112002_1 x112003_1 x112004_1 x112005_1 x112006_1 x112007_1 x112008_1 x112009_1 = some r) ∧ Aside0 (kq ≤ k) ∧ Aside0 (IsS100 w wc g111 x112000_1 x112001_1 x112002_1 x112003_1 x112004_1 x112005_1 x112006_1 x112007_1 x112008_1 x112009_1) ∧ Aside0 (Below w.heap.size w wc))
  case first =>
    have H := HC2.out
    clear HC2
    have H1 : ((deck_Deck_Mode.f t101 t102 t103 t104 t105 t106 t107 t108 t109 t110).bind fun bt112 => (if bt112.1 = 0 then ((deck_Deck_Play.f bt112.2.1 bt112.2.2.1 bt112.2.2.2.1 bt112.2.2.2.2.1 bt112.2.2.2.2.2.1 bt112.2.2.2.2.2.2.1 bt112.2.2.2.2.2.2.2.1 bt112.2.2.2.2.2.2.2.2.1 bt112.2.2.2.2.2.2.2.2.2.1 bt112.2.2.2.2.2.2.2.2.2.2 5 0 9).bind fun bt123 => (if bt123.1 = 13 then ((deck_Deck_Pause.f bt123.2.1 bt123.2.2.1 bt123.2.2.2.1 bt123.2.2.2.2.1 bt123.2.2.2.2.2.1 bt123.2.2.2.2.2.2.1 bt123.2.2.2.2.2.2.2.1 bt123.2.2.2.2.2.2.2.2.1 bt123.2.2.2.2.2.2.2.2.2.1 bt123.2.2.2.2.2.2.2.2.2.2 5 0 9).bind fun bt134 => (tiklaw23_first.j0 k (bt134.1 != 0) bt134.2.1 bt134.2.2.1 bt134.2.2.2.1 bt134.2.2.2.2.1 bt134.2.2.2.2.2.1 bt134.2.2.2.2.2.2.1 bt134.2.2.2.2.2.2.2.1 bt134.2.2.2.2.2.2.2.2.1 bt134.2.2.2.2.2.2.2.2.2.1 bt134.2.2.2.2.2.2.2.2.2.2)) else (tiklaw23_first.j0 k true bt123.2.1 bt123.2.2.1 bt123.2.2.2.1 bt123.2.2.2.2.1 bt123.2.2.2.2.2.1 bt123.2.2.2.2.2.2.1 bt123.2.2.2.2.2.2.2.1 bt123.2.2.2.2.2.2.2.2.1 bt123.2.2.2.2.2.2.2.2.2.1 bt123.2.2.2.2.2.2.2.2.2.2))) else (tiklaw23_first.j0 k true bt112.2.1 bt112.2.2.1 bt112.2.2.2.1 bt112.2.2.2.2.1 bt112.2.2.2.2.2.1 bt112.2.2.2.2.2.2.1 bt112.2.2.2.2.2.2.2.1 bt112.2.2.2.2.2.2.2.2.1 bt112.2.2.2.2.2.2.2.2.2.1 bt112.2.2.2.2.2.2.2.2.2.2))) = some r := by first | (rw [if_neg (show ¬ (false = true) by decide)] at H; exact H) | exact (if_neg not_false).symm.trans H
    clear H
    have H := H1
    clear H1
    replace H := Option.bind_eq_some_iff.mp H
    obtain ⟨⟨t112, t113, t114, t115, t116, t117, t118, t119, t120, t121, t122⟩, A40, H⟩ := H
    replace H : (if t112 = 0 then ((deck_Deck_Play.f t113 t114 t115 t116 t117 t118 t119 t120 t121 t122 5 0 9).bind fun bt123 => (if bt123.1 = 13 then ((deck_Deck_Pause.f bt123.2.1 bt123.2.2.1 bt123.2.2.2.1 bt123.2.2.2.2.1 bt123.2.2.2.2.2.1 bt123.2.2.2.2.2.2.1 bt123.2.2.2.2.2.2.2.1 bt123.2.2.2.2.2.2.2.2.1 bt123.2.2.2.2.2.2.2.2.2.1 bt123.2.2.2.2.2.2.2.2.2.2 5 0 9).bind fun bt134 => (tiklaw23_first.j0 k (bt134.1 != 0) bt134.2.1 bt134.2.2.1 bt134.2.2.2.1 bt134.2.2.2.2.1 bt134.2.2.2.2.2.1 bt134.2.2.2.2.2.2.1 bt134.2.2.2.2.2.2.2.1 bt134.2.2.2.2.2.2.2.2.1 bt134.2.2.2.2.2.2.2.2.2.1 bt134.2.2.2.2.2.2.2.2.2.2)) else (tiklaw23_first.j0 k true bt123.2.1 bt123.2.2.1 bt123.2.2.2.1 bt123.2.2.2.2.1 bt123.2.2.2.2.2.1 bt123.2.2.2.2.2.2.1 bt123.2.2.2.2.2.2.2.1 bt123.2.2.2.2.2.2.2.2.1 bt123.2.2.2.2.2.2.2.2.2.1 bt123.2.2.2.2.2.2.2.2.2.2))) else (tiklaw23_first.j0 k true t113 t114 t115 t116 t117 t118 t119 t120 t121 t122)) = some r := H
    have A4 := Aside0.mk A40
    clear A40
    by_cases c5 : t112 = 0
    · rw [if_pos c5] at H
      have c5b0 : (t112 == 0) = true := beq_iff_eq.mpr c5
      have c5b1 : (t112 != 0) = false := bne_eq_false_iff_eq.mpr c5
      clear c5
      (first | rw [c5b0] | (simp only [i64_w, i32_w]; rw [c5b0]) | skip)
      replace H := Option.bind_eq_some_iff.mp H
      obtain ⟨⟨t123, t124, t125, t126, t127, t128, t129, t130, t131, t132, t133⟩, A60, H⟩ := H
      replace H : (if t123 = 13 then ((deck_Deck_Pause.f t124 t125 t126 t127 t128 t129 t130 t131 t132 t133 5 0 9).bind fun bt134 => (tiklaw23_first.j0 k (bt134.1 != 0) bt134.2.1 bt134.2.2.1 bt134.2.2.2.1 bt134.2.2.2.2.1 bt134.2.2.2.2.2.1 bt134.2.2.2.2.2.2.1 bt134.2.2.2.2.2.2.2.1 bt134.2.2.2.2.2.2.2.2.1 bt134.2.2.2.2.2.2.2.2.2.1 bt134.2.2.2.2.2.2.2.2.2.2)) else (tiklaw23_first.j0 k true t124 t125 t126 t127 t128 t129 t130 t131 t132 t133)) = some r := H
      have A6 := Aside0.mk A60
      clear A60
      by_cases c7 : t123 = 13
      · rw [if_pos c7] at H
        have c7b0 : (t123 == 13) = true := beq_iff_eq.mpr c7
        have c7b1 : (t123 != 13) = false := bne_eq_false_iff_eq.mpr c7
        clear c7
        replace H := Option.bind_eq_some_iff.mp H
        obtain ⟨⟨t134, t135, t136, t137, t138, t139, t140, t141, t142, t143, t144⟩, A80, H⟩ := H
        replace H : (tiklaw23_first.j0 k (t134 != 0) t135 t136 t137 t138 t139 t140 t141 t142 t143 t144) = some r := H
        have A8 := Aside0.mk A80
        clear A80
        have H' := Aside0.mk H
        clear H
        go_wp2_with (first | (go_at_call 18; (with_reducible refine (deck_Deck_Mode.calls g111 t101 t102 t103 t104 t105 t106 t107 t108 t109 t110 t112 t113 t114 t115 t116 t117 t118 t119 t120 t121 t122 w _ ?side1 ?side2 A4.out).mono ?_); (case side1 => repeat (first | (with_reducible first | exact HI111.out | apply IsS100.alloc | apply IsS100.drewN | apply IsS100.drew | apply IsS100.set_0 | apply IsS100.set_1 | apply IsS100.set_2 | apply IsS100.set_3 | apply IsS100.set_4 | apply IsS100.set_5 | apply IsS100.set_6 | apply IsS100.set_7 | apply IsS100.set_8 | apply IsS100.set_9) | exact HI111.out)); (case side2 => repeat (first | (with_reducible first | exact HB.out | apply below_alloc | apply pw_below_drewN | apply below_drew1 | refine below_set ?_ (IsS100.ge HI111.out)) | exact HB.out)); rintro e w9 ⟨rfl, hi, hb, hk⟩; have n0_ := Aside0.mk (hb); have n1_ := Aside0.mk (hi); clear HB; clear HI111; have HB := n0_; have HI111 := n1_; clear n0_ n1_; (try clear hb); (try clear hb2); (try clear hk); (try clear hi)) | (go_at_call 24; (with_reducible refine (deck_Deck_Play.calls g111 t113 t114 t115 t116 t117 t118 t119 t120 t121 t122 5 0 9 t123 t124 t125 t126 t127 t128 t129 t130 t131 t132 t133 w _ ?side1 ?side2 A6.out).mono ?_); (case side1 => repeat (first | (with_reducible first | exact HI111.out | apply IsS100.alloc | apply IsS100.drewN | apply IsS100.drew | apply IsS100.set_0 | apply IsS100.set_1 | apply IsS100.set_2 | apply IsS100.set_3 | apply IsS100.set_4 | apply IsS100.set_5 | apply IsS100.set_6 | apply IsS100.set_7 | apply IsS100.set_8 | apply IsS100.set_9) | exact HI111.out)); (case side2 => repeat (first | (with_reducible first | exact HB.out | apply below_alloc | apply pw_below_drewN | apply below_drew1 | refine below_set ?_ (IsS100.ge HI111.out)) | exact HB.out)); rintro e w10 ⟨rfl, hi, hb, hk⟩; have n0_ := Aside0.mk (hb); have n1_ := Aside0.mk (hi); clear HB; clear HI111; have HB := n0_; have HI111 := n1_; clear n0_ n1_; (try clear hb); (try clear hb2); (try clear hk); (try clear hi)) | (go_at_call 27; (with_reducible refine (deck_Deck_Pause.calls g111 t124 t125 t126 t127 t128 t129 t130 t131 t132 t133 5 0 9 t134 t135 t136 t137 t138 t139 t140 t141 t142 t143 t144 w _ ?side1 ?side2 A8.out).mono ?_); (case side1 => repeat (first | (with_reducible first | exact HI111.out | apply IsS100.alloc | apply IsS100.drewN | apply IsS100.drew | apply IsS100.set_0 | apply IsS100.set_1 | apply IsS100.set_2 | apply IsS100.set_3 | apply IsS100.set_4 | apply IsS100.set_5 | apply IsS100.set_6 | apply IsS100.set_7 | apply IsS100.set_8 | apply IsS100.set_9) | exact HI111.out)); (case side2 => repeat (first | (with_reducible first | exact HB.out | apply below_alloc | apply pw_below_drewN | apply below_drew1 | refine below_set ?_ (IsS100.ge HI111.out)) | exact HB.out)); rintro e w11 ⟨rfl, hi, hb, hk⟩; have n0_ := Aside0.mk (hb); have n1_ := Aside0.mk (hi); clear HB; clear HI111; have HB := n0_; have HI111 := n1_; clear n0_ n1_; (try clear hb); (try clear hb2); (try clear hk); (try clear hi)))
        go_meet
        case rel => exact ⟨_, ((t134 != 0)), (t135), (t136), (t137), (t138), (t139), (t140), (t141), (t142), (t143), (t144), (by first | rfl | (simp; done) | (simp [*]; done)), H', ⟨by first | omega | exact Nat.le_refl _⟩, ⟨by repeat (first | (with_reducible first | exact HI111.out | apply IsS100.alloc | apply IsS100.drewN | apply IsS100.drew | apply IsS100.set_0 | apply IsS100.set_1 | apply IsS100.set_2 | apply IsS100.set_3 | apply IsS100.set_4 | apply IsS100.set_5 | apply IsS100.set_6 | apply IsS100.set_7 | apply IsS100.set_8 | apply IsS100.set_9) | exact HI111.out)⟩, ⟨by repeat (first | (with_reducible first | exact HB.out | apply below_alloc | apply pw_below_drewN | apply below_drew1 | refine below_set ?_ (IsS100.ge HI111.out)) | exact HB.out)⟩⟩
      · rw [if_neg c7] at H
        have c7b0 : (t123 == 13) = false := beq_eq_false_iff_ne.mpr c7
        have c7b1 : (t123 != 13) = true := bne_iff_ne.mpr c7
        have H' := Aside0.mk H
        clear H
        go_wp2_with (first | (go_at_call 18; (with_reducible refine (deck_Deck_Mode.calls g111 t101 t102 t103 t104 t105 t106 t107 t108 t109 t110 t112 t113 t114 t115 t116 t117 t118 t119 t120 t121 t122 w _ ?side1 ?side2 A4.out).mono ?_); (case side1 => repeat (first | (with_reducible first | exact HI111.out | apply IsS100.alloc | apply IsS100.drewN | apply IsS100.drew | apply IsS100.set_0 | apply IsS100.set_1 | apply IsS100.set_2 | apply IsS100.set_3 | apply IsS100.set_4 | apply IsS100.set_5 | apply IsS100.set_6 | apply IsS100.set_7 | apply IsS100.set_8 | apply IsS100.set_9) | exact HI111.out)); (case side2 => repeat (first | (with_reducible first | exact HB.out | apply below_alloc | apply pw_below_drewN | apply below_drew1 | refine below_set ?_ (IsS100.ge HI111.out)) | exact HB.out)); rintro e w12 ⟨rfl, hi, hb, hk⟩; have n0_ := Aside0.mk (hb); have n1_ := Aside0.mk (hi); clear HB; clear HI111; have HB := n0_; have HI111 := n1_; clear n0_ n1_; (try clear hb); (try clear hb2); (try clear hk); (try clear hi)) | (go_at_call 24; (with_reducible refine (deck_Deck_Play.calls g111 t113 t114 t115 t116 t117 t118 t119 t120 t121 t122 5 0 9 t123 t124 t125 t126 t127 t128 t129 t130 t131 t132 t133 w _ ?side1 ?side2 A6.out).mono ?_); (case side1 => repeat (first | (with_reducible first | exact HI111.out | apply IsS100.alloc | apply IsS100.drewN | apply IsS100.drew | apply IsS100.set_0 | apply IsS100.set_1 | apply IsS100.set_2 | apply IsS100.set_3 | apply IsS100.set_4 | apply IsS100.set_5 | apply IsS100.set_6 | apply IsS100.set_7 | apply IsS100.set_8 | apply IsS100.set_9) | exact HI111.out)); (case side2 => repeat (first | (with_reducible first | exact HB.out | apply below_alloc | apply pw_below_drewN | apply below_drew1 | refine below_set ?_ (IsS100.ge HI111.out)) | exact HB.out)); rintro e w13 ⟨rfl, hi, hb, hk⟩; have n0_ := Aside0.mk (hb); have n1_ := Aside0.mk (hi); clear HB; clear HI111; have HB := n0_; have HI111 := n1_; clear n0_ n1_; (try clear hb); (try clear hb2); (try clear hk); (try clear hi)))
        go_meet
        case rel => exact ⟨_, (true), (t124), (t125), (t126), (t127), (t128), (t129), (t130), (t131), (t132), (t133), (by first | rfl | (simp; done) | (simp [*]; done)), H', ⟨by first | omega | exact Nat.le_refl _⟩, ⟨by repeat (first | (with_reducible first | exact HI111.out | apply IsS100.alloc | apply IsS100.drewN | apply IsS100.drew | apply IsS100.set_0 | apply IsS100.set_1 | apply IsS100.set_2 | apply IsS100.set_3 | apply IsS100.set_4 | apply IsS100.set_5 | apply IsS100.set_6 | apply IsS100.set_7 | apply IsS100.set_8 | apply IsS100.set_9) | exact HI111.out)⟩, ⟨by repeat (first | (with_reducible first | exact HB.out | apply below_alloc | apply pw_below_drewN | apply below_drew1 | refine below_set ?_ (IsS100.ge HI111.out)) | exact HB.out)⟩⟩
    · rw [if_neg c5] at H
      have c5b0 : (t112 == 0) = false := beq_eq_false_iff_ne.mpr c5
      have c5b1 : (t112 != 0) = true := bne_iff_ne.mpr c5
      (first | rw [c5b0] | (simp only [i64_w, i32_w]; rw [c5b0]) | skip)
      have H' := Aside0.mk H
      clear H
      go_wp2_with (first | (go_at_call 18; (with_reducible refine (deck_Deck_Mode.calls g111 t101 t102 t103 t104 t105 t106 t107 t108 t109 t110 t112 t113 t114 t115 t116 t117 t118 t119 t120 t121 t122 w _ ?side1 ?side2 A4.out).mono ?_); (case side1 => repeat (first | (with_reducible first | exact HI111.out | apply IsS100.alloc | apply IsS100.drewN | apply IsS100.drew | apply IsS100.set_0 | apply IsS100.set_1 | apply IsS100.set_2 | apply IsS100.set_3 | apply IsS100.set_4 | apply IsS100.set_5 | apply IsS100.set_6 | apply IsS100.set_7 | apply IsS100.set_8 | apply IsS100.set_9) | exact HI111.out)); (case side2 => repeat (first | (with_reducible first | exact HB.out | apply below_alloc | apply pw_below_drewN | apply below_drew1 | refine below_set ?_ (IsS100.ge HI111.out)) | exact HB.out)); rintro e w14 ⟨rfl, hi, hb, hk⟩; have n0_ := Aside0.mk (hb); have n1_ := Aside0.mk (hi); clear HB; clear HI111; have HB := n0_; have HI111 := n1_; clear n0_ n1_; (try clear hb); (try clear hb2); (try clear hk); (try clear hi)))
      go_meet
      case rel => exact ⟨_, (true), (t113), (t114), (t115), (t116), (t117), (t118), (t119), (t120), (t121), (t122), (by first | rfl | (simp; done) | (simp [*]; done)), H', ⟨by first | omega | exact Nat.le_refl _⟩, ⟨by repeat (first | (with_reducible first | exact HI111.out | apply IsS100.alloc | apply IsS100.drewN | apply IsS100.drew | apply IsS100.set_0 | apply IsS100.set_1 | apply IsS100.set_2 | apply IsS100.set_3 | apply IsS100.set_4 | apply IsS100.set_5 | apply IsS100.set_6 | apply IsS100.set_7 | apply IsS100.set_8 | apply IsS100.set_9) | exact HI111.out)⟩, ⟨by repeat (first | (with_reducible first | exact HB.out | apply below_alloc | apply pw_below_drewN | apply below_drew1 | refine below_set ?_ (IsS100.ge HI111.out)) | exact HB.out)⟩⟩
  case rest =>
    clear HC2
    try clear c1
    try clear p2
    try clear c5
    try clear c5b0
    try clear c5b1
    try clear c7
    try clear c7b0
    try clear c7b1
    try clear c12
    try clear c13
    obtain ⟨kq, x19_1, x112000_1, x112001_1, x112002_1, x112003_1, x112004_1, x112005_1, x112006_1, x112007_1, x112008_1, x112009_1, rfl, HA, HJ1, HI111, HB⟩ := hcut
    cases kq with
    | zero => exact absurd HA.out (by simp [tiklaw23_first.j0])
    | succ kj1 =>
      have H := HA.out
      clear HA
      simp only [tiklaw23_first.j0] at H
      by_cases c15 : x19_1 = true
      · subst c15
        have H1 : (some false) = some r := by rw [if_pos rfl] at H; exact H
        clear H
        have H := H1
        clear H1
        obtain rfl := Option.some.inj H
        go_wp2
        go_ret
        exact ⟨by first | rfl | (simp [errW_none, errW_some] <;> rfl) | (simp [*, errW_none, errW_some] <;> rfl), by repeat (first | (with_reducible first | exact HB.out | apply below_alloc | apply pw_below_drewN | apply below_drew1 | refine below_set ?_ (IsS100.ge HI111.out)) | exact HB.out)⟩
      · replace c15 := Bool.eq_false_iff.mpr c15
        subst c15
        have H1 : ((deck_Deck_Mode.f x112000_1 x112001_1 x112002_1 x112003_1 x112004_1 x112005_1 x112006_1 x112007_1 x112008_1 x112009_1).bind fun bt145 => (if bt145.1 = 1 then ((deck_Deck_Pos.f bt145.2.1 bt145.2.2.1 bt145.2.2.2.1 bt145.2.2.2.2.1 bt145.2.2.2.2.2.1 bt145.2.2.2.2.2.2.1 bt145.2.2.2.2.2.2.2.1 bt145.2.2.2.2.2.2.2.2.1 bt145.2.2.2.2.2.2.2.2.2.1 bt145.2.2.2.2.2.2.2.2.2.2).bind fun bt156 => (if bt156.1 = 9 then ((deck_Deck_Seek.f bt156.2.1 bt156.2.2.1 bt156.2.2.2.1 bt156.2.2.2.2.1 bt156.2.2.2.2.2.1 bt156.2.2.2.2.2.2.1 bt156.2.2.2.2.2.2.2.1 bt156.2.2.2.2.2.2.2.2.1 bt156.2.2.2.2.2.2.2.2.2.1 bt156.2.2.2.2.2.2.2.2.2.2 5 2 9 1).bind fun bt167 => (if bt167.1 = 12 then ((rate_From.f 9221120237041090560).bind fun t178 => ((deck_Deck_Speed.f kj1 bt167.2.1 bt167.2.2.1 bt167.2.2.2.1 bt167.2.2.2.2.1 bt167.2.2.2.2.2.1 bt167.2.2.2.2.2.2.1 bt167.2.2.2.2.2.2.2.1 bt167.2.2.2.2.2.2.2.2.1 bt167.2.2.2.2.2.2.2.2.2.1 bt167.2.2.2.2.2.2.2.2.2.2 5 t178).bind fun bt179 => (if bt179.1 = 10 then ((deck_Deck_Rate.f bt179.2.1 bt179.2.2.1 bt179.2.2.2.1 bt179.2.2.2.2.1 bt179.2.2.2.2.2.1 bt179.2.2.2.2.2.2.1 bt179.2.2.2.2.2.2.2.1 bt179.2.2.2.2.2.2.2.2.1 bt179.2.2.2.2.2.2.2.2.2.1 bt179.2.2.2.2.2.2.2.2.2.2).bind fun bt190 => (some (bt190.1 == 1 && (bt190.2.1 == 1)))) else (some false)))) else (some false))) else (some false))) else (some false))) = some r := by rw [if_neg (show ¬ (false = true) by decide)] at H; exact H
        clear H
        have H := H1
        clear H1
        replace H := Option.bind_eq_some_iff.mp H
        obtain ⟨⟨t145, t146, t147, t148, t149, t150, t151, t152, t153, t154, t155⟩, A160, H⟩ := H
        replace H : (if t145 = 1 then ((deck_Deck_Pos.f t146 t147 t148 t149 t150 t151 t152 t153 t154 t155).bind fun bt156 => (if bt156.1 = 9 then ((deck_Deck_Seek.f bt156.2.1 bt156.2.2.1 bt156.2.2.2.1 bt156.2.2.2.2.1 bt156.2.2.2.2.2.1 bt156.2.2.2.2.2.2.1 bt156.2.2.2.2.2.2.2.1 bt156.2.2.2.2.2.2.2.2.1 bt156.2.2.2.2.2.2.2.2.2.1 bt156.2.2.2.2.2.2.2.2.2.2 5 2 9 1).bind fun bt167 => (if bt167.1 = 12 then ((rate_From.f 9221120237041090560).bind fun t178 => ((deck_Deck_Speed.f kj1 bt167.2.1 bt167.2.2.1 bt167.2.2.2.1 bt167.2.2.2.2.1 bt167.2.2.2.2.2.1 bt167.2.2.2.2.2.2.1 bt167.2.2.2.2.2.2.2.1 bt167.2.2.2.2.2.2.2.2.1 bt167.2.2.2.2.2.2.2.2.2.1 bt167.2.2.2.2.2.2.2.2.2.2 5 t178).bind fun bt179 => (if bt179.1 = 10 then ((deck_Deck_Rate.f bt179.2.1 bt179.2.2.1 bt179.2.2.2.1 bt179.2.2.2.2.1 bt179.2.2.2.2.2.1 bt179.2.2.2.2.2.2.1 bt179.2.2.2.2.2.2.2.1 bt179.2.2.2.2.2.2.2.2.1 bt179.2.2.2.2.2.2.2.2.2.1 bt179.2.2.2.2.2.2.2.2.2.2).bind fun bt190 => (some (bt190.1 == 1 && (bt190.2.1 == 1)))) else (some false)))) else (some false))) else (some false))) else (some false)) = some r := H
        have A16 := Aside0.mk A160
        clear A160
        by_cases c17 : t145 = 1
        · rw [if_pos c17] at H
          have c17b0 : (t145 == 1) = true := beq_iff_eq.mpr c17
          have c17b1 : (t145 != 1) = false := bne_eq_false_iff_eq.mpr c17
          clear c17
          replace H := Option.bind_eq_some_iff.mp H
          obtain ⟨⟨t156, t157, t158, t159, t160, t161, t162, t163, t164, t165, t166⟩, A180, H⟩ := H
          replace H : (if t156 = 9 then ((deck_Deck_Seek.f t157 t158 t159 t160 t161 t162 t163 t164 t165 t166 5 2 9 1).bind fun bt167 => (if bt167.1 = 12 then ((rate_From.f 9221120237041090560).bind fun t178 => ((deck_Deck_Speed.f kj1 bt167.2.1 bt167.2.2.1 bt167.2.2.2.1 bt167.2.2.2.2.1 bt167.2.2.2.2.2.1 bt167.2.2.2.2.2.2.1 bt167.2.2.2.2.2.2.2.1 bt167.2.2.2.2.2.2.2.2.1 bt167.2.2.2.2.2.2.2.2.2.1 bt167.2.2.2.2.2.2.2.2.2.2 5 t178).bind fun bt179 => (if bt179.1 = 10 then ((deck_Deck_Rate.f bt179.2.1 bt179.2.2.1 bt179.2.2.2.1 bt179.2.2.2.2.1 bt179.2.2.2.2.2.1 bt179.2.2.2.2.2.2.1 bt179.2.2.2.2.2.2.2.1 bt179.2.2.2.2.2.2.2.2.1 bt179.2.2.2.2.2.2.2.2.2.1 bt179.2.2.2.2.2.2.2.2.2.2).bind fun bt190 => (some (bt190.1 == 1 && (bt190.2.1 == 1)))) else (some false)))) else (some false))) else (some false)) = some r := H
          have A18 := Aside0.mk A180
          clear A180
          by_cases c19 : t156 = 9
          · rw [if_pos c19] at H
            have c19b0 : (t156 == 9) = true := beq_iff_eq.mpr c19
            have c19b1 : (t156 != 9) = false := bne_eq_false_iff_eq.mpr c19
            clear c19
            replace H := Option.bind_eq_some_iff.mp H
            obtain ⟨⟨t167, t168, t169, t170, t171, t172, t173, t174, t175, t176, t177⟩, A200, H⟩ := H
            replace H : (if t167 = 12 then ((rate_From.f 9221120237041090560).bind fun t178 => ((deck_Deck_Speed.f kj1 t168 t169 t170 t171 t172 t173 t174 t175 t176 t177 5 t178).bind fun bt179 => (if bt179.1 = 10 then ((deck_Deck_Rate.f bt179.2.1 bt179.2.2.1 bt179.2.2.2.1 bt179.2.2.2.2.1 bt179.2.2.2.2.2.1 bt179.2.2.2.2.2.2.1 bt179.2.2.2.2.2.2.2.1 bt179.2.2.2.2.2.2.2.2.1 bt179.2.2.2.2.2.2.2.2.2.1 bt179.2.2.2.2.2.2.2.2.2.2).bind fun bt190 => (some (bt190.1 == 1 && (bt190.2.1 == 1)))) else (some false)))) else (some false)) = some r := H
            have A20 := Aside0.mk A200
            clear A200
            by_cases c21 : t167 = 12
            · rw [if_pos c21] at H
              have c21b0 : (t167 == 12) = true := beq_iff_eq.mpr c21
              have c21b1 : (t167 != 12) = false := bne_eq_false_iff_eq.mpr c21
              clear c21
              replace H := Option.bind_eq_some_iff.mp H
              obtain ⟨t178, A220, H⟩ := H
              replace H : ((deck_Deck_Speed.f kj1 t168 t169 t170 t171 t172 t173 t174 t175 t176 t177 5 t178).bind fun bt179 => (if bt179.1 = 10 then ((deck_Deck_Rate.f bt179.2.1 bt179.2.2.1 bt179.2.2.2.1 bt179.2.2.2.2.1 bt179.2.2.2.2.2.1 bt179.2.2.2.2.2.2.1 bt179.2.2.2.2.2.2.2.1 bt179.2.2.2.2.2.2.2.2.1 bt179.2.2.2.2.2.2.2.2.2.1 bt179.2.2.2.2.2.2.2.2.2.2).bind fun bt190 => (some (bt190.1 == 1 && (bt190.2.1 == 1)))) else (some false))) = some r := H
              have A22 := Aside0.mk A220
              clear A220
              replace H := Option.bind_eq_some_iff.mp H
              obtain ⟨⟨t179, t180, t181, t182, t183, t184, t185, t186, t187, t188, t189⟩, A230, H⟩ := H
              replace H : (if t179 = 10 then ((deck_Deck_Rate.f t180 t181 t182 t183 t184 t185 t186 t187 t188 t189).bind fun bt190 => (some (bt190.1 == 1 && (bt190.2.1 == 1)))) else (some false)) = some r := H
              have A23 := Aside0.mk A230
              clear A230
              by_cases c24 : t179 = 10
              · rw [if_pos c24] at H
                have c24b0 : (t179 == 10) = true := beq_iff_eq.mpr c24
                have c24b1 : (t179 != 10) = false := bne_eq_false_iff_eq.mpr c24
                clear c24
                replace H := Option.bind_eq_some_iff.mp H
                obtain ⟨⟨t190, t191, t192, t193, t194, t195, t196, t197, t198, t199, t200, t201⟩, A250, H⟩ := H
                replace H : (some (t190 == 1 && (t191 == 1))) = some r := H
                have A25 := Aside0.mk A250
                clear A250
                obtain rfl := Option.some.inj H
                go_wp2_with (first | ((with_reducible refine gate_callee (f := 18) rfl ?_); refine goesL_ (some 21) rfl rfl Tryd.func18 (by kernel_rfl) rfl #[.pointer (some ⟨g111, 0, none⟩)] rfl (by (try simp only [List.map_toArray, List.map_cons, List.map_nil]); first | done | rfl | (simp only [List.length_drop, List.length_take]; rfl)) ?_; (with_reducible refine (deck_Deck_Mode.calls g111 x112000_1 x112001_1 x112002_1 x112003_1 x112004_1 x112005_1 x112006_1 x112007_1 x112008_1 x112009_1 t145 t146 t147 t148 t149 t150 t151 t152 t153 t154 t155 w _ ?side1 ?side2 A16.out).mono ?_); (case side1 => repeat (first | (with_reducible first | exact HI111.out | apply IsS100.alloc | apply IsS100.drewN | apply IsS100.drew | apply IsS100.set_0 | apply IsS100.set_1 | apply IsS100.set_2 | apply IsS100.set_3 | apply IsS100.set_4 | apply IsS100.set_5 | apply IsS100.set_6 | apply IsS100.set_7 | apply IsS100.set_8 | apply IsS100.set_9) | exact HI111.out)); (case side2 => repeat (first | (with_reducible first | exact HB.out | apply below_alloc | apply pw_below_drewN | apply below_drew1 | refine below_set ?_ (IsS100.ge HI111.out)) | exact HB.out)); rintro e w26 ⟨rfl, hi, hb, hk⟩; refine ⟨_, rfl, ?_⟩; have n0_ := Aside0.mk (hb); have n1_ := Aside0.mk (hi); clear HB; clear HI111; have HB := n0_; have HI111 := n1_; clear n0_ n1_; (try clear hb); (try clear hb2); (try clear hk); (try clear hi)) | (go_at_call 19; (with_reducible refine (deck_Deck_Pos.calls g111 t146 t147 t148 t149 t150 t151 t152 t153 t154 t155 t156 t157 t158 t159 t160 t161 t162 t163 t164 t165 t166 w _ ?side1 ?side2 A18.out).mono ?_); (case side1 => repeat (first | (with_reducible first | exact HI111.out | apply IsS100.alloc | apply IsS100.drewN | apply IsS100.drew | apply IsS100.set_0 | apply IsS100.set_1 | apply IsS100.set_2 | apply IsS100.set_3 | apply IsS100.set_4 | apply IsS100.set_5 | apply IsS100.set_6 | apply IsS100.set_7 | apply IsS100.set_8 | apply IsS100.set_9) | exact HI111.out)); (case side2 => repeat (first | (with_reducible first | exact HB.out | apply below_alloc | apply pw_below_drewN | apply below_drew1 | refine below_set ?_ (IsS100.ge HI111.out)) | exact HB.out)); rintro e w27 ⟨rfl, hi, hb, hk⟩; have n0_ := Aside0.mk (hb); have n1_ := Aside0.mk (hi); clear HB; clear HI111; have HB := n0_; have HI111 := n1_; clear n0_ n1_; (try clear hb); (try clear hb2); (try clear hk); (try clear hi)) | (go_at_call 23; (with_reducible refine (deck_Deck_Seek.calls g111 t157 t158 t159 t160 t161 t162 t163 t164 t165 t166 5 2 9 1 t167 t168 t169 t170 t171 t172 t173 t174 t175 t176 t177 w _ ?side1 ?side2 A20.out).mono ?_); (case side1 => repeat (first | (with_reducible first | exact HI111.out | apply IsS100.alloc | apply IsS100.drewN | apply IsS100.drew | apply IsS100.set_0 | apply IsS100.set_1 | apply IsS100.set_2 | apply IsS100.set_3 | apply IsS100.set_4 | apply IsS100.set_5 | apply IsS100.set_6 | apply IsS100.set_7 | apply IsS100.set_8 | apply IsS100.set_9) | exact HI111.out)); (case side2 => repeat (first | (with_reducible first | exact HB.out | apply below_alloc | apply pw_below_drewN | apply below_drew1 | refine below_set ?_ (IsS100.ge HI111.out)) | exact HB.out)); rintro e w28 ⟨rfl, hi, hb, hk⟩; have n0_ := Aside0.mk (hb); have n1_ := Aside0.mk (hi); clear HB; clear HI111; have HB := n0_; have HI111 := n1_; clear n0_ n1_; (try clear hb); (try clear hb2); (try clear hk); (try clear hi)) | (go_at_call 44; (with_reducible refine (rate_From.calls 9221120237041090560 t178 _ A22.out).mono ?_); rintro e w29 ⟨rfl, hb⟩; have n0_ := Aside0.mk (IsS100.below (by repeat (first | (with_reducible first | exact HI111.out | apply IsS100.alloc | apply IsS100.drewN | apply IsS100.drew | apply IsS100.set_0 | apply IsS100.set_1 | apply IsS100.set_2 | apply IsS100.set_3 | apply IsS100.set_4 | apply IsS100.set_5 | apply IsS100.set_6 | apply IsS100.set_7 | apply IsS100.set_8 | apply IsS100.set_9) | exact HI111.out)) hb); have n1_ := Aside0.mk (below_step (by repeat (first | (with_reducible first | exact HB.out | apply below_alloc | apply pw_below_drewN | apply below_drew1 | refine below_set ?_ (IsS100.ge HI111.out)) | exact HB.out)) hb); clear HI111; clear HB; have HI111 := n0_; have HB := n1_; clear n0_ n1_; (try clear hb); (try clear hb2); (try clear hk); (try clear hi)) | (go_at_call 21; (with_reducible refine (deck_Deck_Speed.calls kj1 g111 t168 t169 t170 t171 t172 t173 t174 t175 t176 t177 5 t178 t179 t180 t181 t182 t183 t184 t185 t186 t187 t188 t189 w _ ?side1 ?side2 ?side3 A23.out).mono ?_); (case side1 => repeat (first | (with_reducible first | exact HI111.out | apply IsS100.alloc | apply IsS100.drewN | apply IsS100.drew | apply IsS100.set_0 | apply IsS100.set_1 | apply IsS100.set_2 | apply IsS100.set_3 | apply IsS100.set_4 | apply IsS100.set_5 | apply IsS100.set_6 | apply IsS100.set_7 | apply IsS100.set_8 | apply IsS100.set_9) | exact HI111.out)); (case side2 => repeat (first | (with_reducible first | exact HB.out | apply below_alloc | apply pw_below_drewN | apply below_drew1 | refine below_set ?_ (IsS100.ge HI111.out)) | exact HB.out)); (case side3 => first | (with_reducible exact HT.out) | exact tabAt HT.out (by repeat (first | (with_reducible first | exact HB.out | apply below_alloc | apply pw_below_drewN | apply below_drew1 | refine below_set ?_ (IsS100.ge HI111.out)) | exact HB.out))); rintro e w30 ⟨rfl, hi, hb, hk⟩; have n0_ := Aside0.mk (hb); have n1_ := Aside0.mk (hi); clear HB; clear HI111; have HB := n0_; have HI111 := n1_; clear n0_ n1_; (try clear hb); (try clear hb2); (try clear hk); (try clear hi)) | (go_at_call 15; (with_reducible refine (deck_Deck_Rate.calls g111 t180 t181 t182 t183 t184 t185 t186 t187 t188 t189 t190 t191 t192 t193 t194 t195 t196 t197 t198 t199 t200 t201 w _ ?side1 ?side2 A25.out).mono ?_); (case side1 => repeat (first | (with_reducible first | exact HI111.out | apply IsS100.alloc | apply IsS100.drewN | apply IsS100.drew | apply IsS100.set_0 | apply IsS100.set_1 | apply IsS100.set_2 | apply IsS100.set_3 | apply IsS100.set_4 | apply IsS100.set_5 | apply IsS100.set_6 | apply IsS100.set_7 | apply IsS100.set_8 | apply IsS100.set_9) | exact HI111.out)); (case side2 => repeat (first | (with_reducible first | exact HB.out | apply below_alloc | apply pw_below_drewN | apply below_drew1 | refine below_set ?_ (IsS100.ge HI111.out)) | exact HB.out)); rintro e w31 ⟨rfl, hi, hb, hk⟩; have n0_ := Aside0.mk (hb); have n1_ := Aside0.mk (hi); clear HB; clear HI111; have HB := n0_; have HI111 := n1_; clear n0_ n1_; (try clear hb); (try clear hb2); (try clear hk); (try clear hi)))
                go_ret
                exact ⟨by first | rfl | (simp [errW_none, errW_some] <;> rfl) | (simp [*, errW_none, errW_some] <;> rfl), by repeat (first | (with_reducible first | exact HB.out | apply below_alloc | apply pw_below_drewN | apply below_drew1 | refine below_set ?_ (IsS100.ge HI111.out)) | exact HB.out)⟩
              · rw [if_neg c24] at H
                have c24b0 : (t179 == 10) = false := beq_eq_false_iff_ne.mpr c24
                have c24b1 : (t179 != 10) = true := bne_iff_ne.mpr c24
                obtain rfl := Option.some.inj H
                go_wp2_with (first | ((with_reducible refine gate_callee (f := 18) rfl ?_); refine goesL_ (some 21) rfl rfl Tryd.func18 (by kernel_rfl) rfl #[.pointer (some ⟨g111, 0, none⟩)] rfl (by (try simp only [List.map_toArray, List.map_cons, List.map_nil]); first | done | rfl | (simp only [List.length_drop, List.length_take]; rfl)) ?_; (with_reducible refine (deck_Deck_Mode.calls g111 x112000_1 x112001_1 x112002_1 x112003_1 x112004_1 x112005_1 x112006_1 x112007_1 x112008_1 x112009_1 t145 t146 t147 t148 t149 t150 t151 t152 t153 t154 t155 w _ ?side1 ?side2 A16.out).mono ?_); (case side1 => repeat (first | (with_reducible first | exact HI111.out | apply IsS100.alloc | apply IsS100.drewN | apply IsS100.drew | apply IsS100.set_0 | apply IsS100.set_1 | apply IsS100.set_2 | apply IsS100.set_3 | apply IsS100.set_4 | apply IsS100.set_5 | apply IsS100.set_6 | apply IsS100.set_7 | apply IsS100.set_8 | apply IsS100.set_9) | exact HI111.out)); (case side2 => repeat (first | (with_reducible first | exact HB.out | apply below_alloc | apply pw_below_drewN | apply below_drew1 | refine below_set ?_ (IsS100.ge HI111.out)) | exact HB.out)); rintro e w32 ⟨rfl, hi, hb, hk⟩; refine ⟨_, rfl, ?_⟩; have n0_ := Aside0.mk (hb); have n1_ := Aside0.mk (hi); clear HB; clear HI111; have HB := n0_; have HI111 := n1_; clear n0_ n1_; (try clear hb); (try clear hb2); (try clear hk); (try clear hi)) | (go_at_call 19; (with_reducible refine (deck_Deck_Pos.calls g111 t146 t147 t148 t149 t150 t151 t152 t153 t154 t155 t156 t157 t158 t159 t160 t161 t162 t163 t164 t165 t166 w _ ?side1 ?side2 A18.out).mono ?_); (case side1 => repeat (first | (with_reducible first | exact HI111.out | apply IsS100.alloc | apply IsS100.drewN | apply IsS100.drew | apply IsS100.set_0 | apply IsS100.set_1 | apply IsS100.set_2 | apply IsS100.set_3 | apply IsS100.set_4 | apply IsS100.set_5 | apply IsS100.set_6 | apply IsS100.set_7 | apply IsS100.set_8 | apply IsS100.set_9) | exact HI111.out)); (case side2 => repeat (first | (with_reducible first | exact HB.out | apply below_alloc | apply pw_below_drewN | apply below_drew1 | refine below_set ?_ (IsS100.ge HI111.out)) | exact HB.out)); rintro e w33 ⟨rfl, hi, hb, hk⟩; have n0_ := Aside0.mk (hb); have n1_ := Aside0.mk (hi); clear HB; clear HI111; have HB := n0_; have HI111 := n1_; clear n0_ n1_; (try clear hb); (try clear hb2); (try clear hk); (try clear hi)) | (go_at_call 23; (with_reducible refine (deck_Deck_Seek.calls g111 t157 t158 t159 t160 t161 t162 t163 t164 t165 t166 5 2 9 1 t167 t168 t169 t170 t171 t172 t173 t174 t175 t176 t177 w _ ?side1 ?side2 A20.out).mono ?_); (case side1 => repeat (first | (with_reducible first | exact HI111.out | apply IsS100.alloc | apply IsS100.drewN | apply IsS100.drew | apply IsS100.set_0 | apply IsS100.set_1 | apply IsS100.set_2 | apply IsS100.set_3 | apply IsS100.set_4 | apply IsS100.set_5 | apply IsS100.set_6 | apply IsS100.set_7 | apply IsS100.set_8 | apply IsS100.set_9) | exact HI111.out)); (case side2 => repeat (first | (with_reducible first | exact HB.out | apply below_alloc | apply pw_below_drewN | apply below_drew1 | refine below_set ?_ (IsS100.ge HI111.out)) | exact HB.out)); rintro e w34 ⟨rfl, hi, hb, hk⟩; have n0_ := Aside0.mk (hb); have n1_ := Aside0.mk (hi); clear HB; clear HI111; have HB := n0_; have HI111 := n1_; clear n0_ n1_; (try clear hb); (try clear hb2); (try clear hk); (try clear hi)) | (go_at_call 44; (with_reducible refine (rate_From.calls 9221120237041090560 t178 _ A22.out).mono ?_); rintro e w35 ⟨rfl, hb⟩; have n0_ := Aside0.mk (IsS100.below (by repeat (first | (with_reducible first | exact HI111.out | apply IsS100.alloc | apply IsS100.drewN | apply IsS100.drew | apply IsS100.set_0 | apply IsS100.set_1 | apply IsS100.set_2 | apply IsS100.set_3 | apply IsS100.set_4 | apply IsS100.set_5 | apply IsS100.set_6 | apply IsS100.set_7 | apply IsS100.set_8 | apply IsS100.set_9) | exact HI111.out)) hb); have n1_ := Aside0.mk (below_step (by repeat (first | (with_reducible first | exact HB.out | apply below_alloc | apply pw_below_drewN | apply below_drew1 | refine below_set ?_ (IsS100.ge HI111.out)) | exact HB.out)) hb); clear HI111; clear HB; have HI111 := n0_; have HB := n1_; clear n0_ n1_; (try clear hb); (try clear hb2); (try clear hk); (try clear hi)) | (go_at_call 21; (with_reducible refine (deck_Deck_Speed.calls kj1 g111 t168 t169 t170 t171 t172 t173 t174 t175 t176 t177 5 t178 t179 t180 t181 t182 t183 t184 t185 t186 t187 t188 t189 w _ ?side1 ?side2 ?side3 A23.out).mono ?_); (case side1 => repeat (first | (with_reducible first | exact HI111.out | apply IsS100.alloc | apply IsS100.drewN | apply IsS100.drew | apply IsS100.set_0 | apply IsS100.set_1 | apply IsS100.set_2 | apply IsS100.set_3 | apply IsS100.set_4 | apply IsS100.set_5 | apply IsS100.set_6 | apply IsS100.set_7 | apply IsS100.set_8 | apply IsS100.set_9) | exact HI111.out)); (case side2 => repeat (first | (with_reducible first | exact HB.out | apply below_alloc | apply pw_below_drewN | apply below_drew1 | refine below_set ?_ (IsS100.ge HI111.out)) | exact HB.out)); (case side3 => first | (with_reducible exact HT.out) | exact tabAt HT.out (by repeat (first | (with_reducible first | exact HB.out | apply below_alloc | apply pw_below_drewN | apply below_drew1 | refine below_set ?_ (IsS100.ge HI111.out)) | exact HB.out))); rintro e w36 ⟨rfl, hi, hb, hk⟩; have n0_ := Aside0.mk (hb); have n1_ := Aside0.mk (hi); clear HB; clear HI111; have HB := n0_; have HI111 := n1_; clear n0_ n1_; (try clear hb); (try clear hb2); (try clear hk); (try clear hi)))
                go_ret
                exact ⟨by first | rfl | (simp [errW_none, errW_some] <;> rfl) | (simp [*, errW_none, errW_some] <;> rfl), by repeat (first | (with_reducible first | exact HB.out | apply below_alloc | apply pw_below_drewN | apply below_drew1 | refine below_set ?_ (IsS100.ge HI111.out)) | exact HB.out)⟩
            · rw [if_neg c21] at H
              have c21b0 : (t167 == 12) = false := beq_eq_false_iff_ne.mpr c21
              have c21b1 : (t167 != 12) = true := bne_iff_ne.mpr c21
              obtain rfl := Option.some.inj H
              go_wp2_with (first | ((with_reducible refine gate_callee (f := 18) rfl ?_); refine goesL_ (some 21) rfl rfl Tryd.func18 (by kernel_rfl) rfl #[.pointer (some ⟨g111, 0, none⟩)] rfl (by (try simp only [List.map_toArray, List.map_cons, List.map_nil]); first | done | rfl | (simp only [List.length_drop, List.length_take]; rfl)) ?_; (with_reducible refine (deck_Deck_Mode.calls g111 x112000_1 x112001_1 x112002_1 x112003_1 x112004_1 x112005_1 x112006_1 x112007_1 x112008_1 x112009_1 t145 t146 t147 t148 t149 t150 t151 t152 t153 t154 t155 w _ ?side1 ?side2 A16.out).mono ?_); (case side1 => repeat (first | (with_reducible first | exact HI111.out | apply IsS100.alloc | apply IsS100.drewN | apply IsS100.drew | apply IsS100.set_0 | apply IsS100.set_1 | apply IsS100.set_2 | apply IsS100.set_3 | apply IsS100.set_4 | apply IsS100.set_5 | apply IsS100.set_6 | apply IsS100.set_7 | apply IsS100.set_8 | apply IsS100.set_9) | exact HI111.out)); (case side2 => repeat (first | (with_reducible first | exact HB.out | apply below_alloc | apply pw_below_drewN | apply below_drew1 | refine below_set ?_ (IsS100.ge HI111.out)) | exact HB.out)); rintro e w37 ⟨rfl, hi, hb, hk⟩; refine ⟨_, rfl, ?_⟩; have n0_ := Aside0.mk (hb); have n1_ := Aside0.mk (hi); clear HB; clear HI111; have HB := n0_; have HI111 := n1_; clear n0_ n1_; (try clear hb); (try clear hb2); (try clear hk); (try clear hi)) | (go_at_call 19; (with_reducible refine (deck_Deck_Pos.calls g111 t146 t147 t148 t149 t150 t151 t152 t153 t154 t155 t156 t157 t158 t159 t160 t161 t162 t163 t164 t165 t166 w _ ?side1 ?side2 A18.out).mono ?_); (case side1 => repeat (first | (with_reducible first | exact HI111.out | apply IsS100.alloc | apply IsS100.drewN | apply IsS100.drew | apply IsS100.set_0 | apply IsS100.set_1 | apply IsS100.set_2 | apply IsS100.set_3 | apply IsS100.set_4 | apply IsS100.set_5 | apply IsS100.set_6 | apply IsS100.set_7 | apply IsS100.set_8 | apply IsS100.set_9) | exact HI111.out)); (case side2 => repeat (first | (with_reducible first | exact HB.out | apply below_alloc | apply pw_below_drewN | apply below_drew1 | refine below_set ?_ (IsS100.ge HI111.out)) | exact HB.out)); rintro e w38 ⟨rfl, hi, hb, hk⟩; have n0_ := Aside0.mk (hb); have n1_ := Aside0.mk (hi); clear HB; clear HI111; have HB := n0_; have HI111 := n1_; clear n0_ n1_; (try clear hb); (try clear hb2); (try clear hk); (try clear hi)) | (go_at_call 23; (with_reducible refine (deck_Deck_Seek.calls g111 t157 t158 t159 t160 t161 t162 t163 t164 t165 t166 5 2 9 1 t167 t168 t169 t170 t171 t172 t173 t174 t175 t176 t177 w _ ?side1 ?side2 A20.out).mono ?_); (case side1 => repeat (first | (with_reducible first | exact HI111.out | apply IsS100.alloc | apply IsS100.drewN | apply IsS100.drew | apply IsS100.set_0 | apply IsS100.set_1 | apply IsS100.set_2 | apply IsS100.set_3 | apply IsS100.set_4 | apply IsS100.set_5 | apply IsS100.set_6 | apply IsS100.set_7 | apply IsS100.set_8 | apply IsS100.set_9) | exact HI111.out)); (case side2 => repeat (first | (with_reducible first | exact HB.out | apply below_alloc | apply pw_below_drewN | apply below_drew1 | refine below_set ?_ (IsS100.ge HI111.out)) | exact HB.out)); rintro e w39 ⟨rfl, hi, hb, hk⟩; have n0_ := Aside0.mk (hb); have n1_ := Aside0.mk (hi); clear HB; clear HI111; have HB := n0_; have HI111 := n1_; clear n0_ n1_; (try clear hb); (try clear hb2); (try clear hk); (try clear hi)))
              go_ret
              exact ⟨by first | rfl | (simp [errW_none, errW_some] <;> rfl) | (simp [*, errW_none, errW_some] <;> rfl), by repeat (first | (with_reducible first | exact HB.out | apply below_alloc | apply pw_below_drewN | apply below_drew1 | refine below_set ?_ (IsS100.ge HI111.out)) | exact HB.out)⟩
          · rw [if_neg c19] at H
            have c19b0 : (t156 == 9) = false := beq_eq_false_iff_ne.mpr c19
            have c19b1 : (t156 != 9) = true := bne_iff_ne.mpr c19
            obtain rfl := Option.some.inj H
            go_wp2_with (first | ((with_reducible refine gate_callee (f := 18) rfl ?_); refine goesL_ (some 21) rfl rfl Tryd.func18 (by kernel_rfl) rfl #[.pointer (some ⟨g111, 0, none⟩)] rfl (by (try simp only [List.map_toArray, List.map_cons, List.map_nil]); first | done | rfl | (simp only [List.length_drop, List.length_take]; rfl)) ?_; (with_reducible refine (deck_Deck_Mode.calls g111 x112000_1 x112001_1 x112002_1 x112003_1 x112004_1 x112005_1 x112006_1 x112007_1 x112008_1 x112009_1 t145 t146 t147 t148 t149 t150 t151 t152 t153 t154 t155 w _ ?side1 ?side2 A16.out).mono ?_); (case side1 => repeat (first | (with_reducible first | exact HI111.out | apply IsS100.alloc | apply IsS100.drewN | apply IsS100.drew | apply IsS100.set_0 | apply IsS100.set_1 | apply IsS100.set_2 | apply IsS100.set_3 | apply IsS100.set_4 | apply IsS100.set_5 | apply IsS100.set_6 | apply IsS100.set_7 | apply IsS100.set_8 | apply IsS100.set_9) | exact HI111.out)); (case side2 => repeat (first | (with_reducible first | exact HB.out | apply below_alloc | apply pw_below_drewN | apply below_drew1 | refine below_set ?_ (IsS100.ge HI111.out)) | exact HB.out)); rintro e w40 ⟨rfl, hi, hb, hk⟩; refine ⟨_, rfl, ?_⟩; have n0_ := Aside0.mk (hb); have n1_ := Aside0.mk (hi); clear HB; clear HI111; have HB := n0_; have HI111 := n1_; clear n0_ n1_; (try clear hb); (try clear hb2); (try clear hk); (try clear hi)) | (go_at_call 19; (with_reducible refine (deck_Deck_Pos.calls g111 t146 t147 t148 t149 t150 t151 t152 t153 t154 t155 t156 t157 t158 t159 t160 t161 t162 t163 t164 t165 t166 w _ ?side1 ?side2 A18.out).mono ?_); (case side1 => repeat (first | (with_reducible first | exact HI111.out | apply IsS100.alloc | apply IsS100.drewN | apply IsS100.drew | apply IsS100.set_0 | apply IsS100.set_1 | apply IsS100.set_2 | apply IsS100.set_3 | apply IsS100.set_4 | apply IsS100.set_5 | apply IsS100.set_6 | apply IsS100.set_7 | apply IsS100.set_8 | apply IsS100.set_9) | exact HI111.out)); (case side2 => repeat (first | (with_reducible first | exact HB.out | apply below_alloc | apply pw_below_drewN | apply below_drew1 | refine below_set ?_ (IsS100.ge HI111.out)) | exact HB.out)); rintro e w41 ⟨rfl, hi, hb, hk⟩; have n0_ := Aside0.mk (hb); have n1_ := Aside0.mk (hi); clear HB; clear HI111; have HB := n0_; have HI111 := n1_; clear n0_ n1_; (try clear hb); (try clear hb2); (try clear hk); (try clear hi)))
            go_ret
            exact ⟨by first | rfl | (simp [errW_none, errW_some] <;> rfl) | (simp [*, errW_none, errW_some] <;> rfl), by repeat (first | (with_reducible first | exact HB.out | apply below_alloc | apply pw_below_drewN | apply below_drew1 | refine below_set ?_ (IsS100.ge HI111.out)) | exact HB.out)⟩
        · rw [if_neg c17] at H
          have c17b0 : (t145 == 1) = false := beq_eq_false_iff_ne.mpr c17
          have c17b1 : (t145 != 1) = true := bne_iff_ne.mpr c17
          obtain rfl := Option.some.inj H
          go_wp2_with (first | ((with_reducible refine gate_callee (f := 18) rfl ?_); refine goesL_ (some 21) rfl rfl Tryd.func18 (by kernel_rfl) rfl #[.pointer (some ⟨g111, 0, none⟩)] rfl (by (try simp only [List.map_toArray, List.map_cons, List.map_nil]); first | done | rfl | (simp only [List.length_drop, List.length_take]; rfl)) ?_; (with_reducible refine (deck_Deck_Mode.calls g111 x112000_1 x112001_1 x112002_1 x112003_1 x112004_1 x112005_1 x112006_1 x112007_1 x112008_1 x112009_1 t145 t146 t147 t148 t149 t150 t151 t152 t153 t154 t155 w _ ?side1 ?side2 A16.out).mono ?_); (case side1 => repeat (first | (with_reducible first | exact HI111.out | apply IsS100.alloc | apply IsS100.drewN | apply IsS100.drew | apply IsS100.set_0 | apply IsS100.set_1 | apply IsS100.set_2 | apply IsS100.set_3 | apply IsS100.set_4 | apply IsS100.set_5 | apply IsS100.set_6 | apply IsS100.set_7 | apply IsS100.set_8 | apply IsS100.set_9) | exact HI111.out)); (case side2 => repeat (first | (with_reducible first | exact HB.out | apply below_alloc | apply pw_below_drewN | apply below_drew1 | refine below_set ?_ (IsS100.ge HI111.out)) | exact HB.out)); rintro e w42 ⟨rfl, hi, hb, hk⟩; refine ⟨_, rfl, ?_⟩; have n0_ := Aside0.mk (hb); have n1_ := Aside0.mk (hi); clear HB; clear HI111; have HB := n0_; have HI111 := n1_; clear n0_ n1_; (try clear hb); (try clear hb2); (try clear hk); (try clear hi)))
          go_ret
          exact ⟨by first | rfl | (simp [errW_none, errW_some] <;> rfl) | (simp [*, errW_none, errW_some] <;> rfl), by repeat (first | (with_reducible first | exact HB.out | apply below_alloc | apply pw_below_drewN | apply below_drew1 | refine below_set ?_ (IsS100.ge HI111.out)) | exact HB.out)⟩
end Go.Proofs.YtlgfmmkabnbllaaDoor.PF
namespace Go.Proofs.YtlgfmmkabnbllaaDoor.Hand
open Go.RowKit Go.Proofs.YtlgfmmkabnbllaaDoorW.PrintWords Go.Proofs.YtlgfmmkabnbllaaDoorW.PrintLast Go.Proofs.YtlgfmmkabnbllaaDoorW.PrintMore Go.Proofs.YtlgfmmkabnbllaaDoor.PA Go.Proofs.YtlgfmmkabnbllaaDoor.PB Go.Proofs.YtlgfmmkabnbllaaDoor.PC Go.Proofs.YtlgfmmkabnbllaaDoor.PF
set_option linter.unusedSimpArgs false
set_option linter.unusedVariables false
set_option exponentiation.threshold 3000
theorem mode_f (s0 s1 s2 s3 : Int) (s4 : Bool) (s5 s6 s7 s8 s9 : Int) : deck_Deck_Mode.f s0 s1 s2 s3 s4 s5 s6 s7 s8 s9 = some (s0, s0, s1, s2, s3, s4, s5, s6, s7, s8, s9) := rfl
theorem pos_f (s0 s1 s2 s3 : Int) (s4 : Bool) (s5 s6 s7 s8 s9 : Int) : deck_Deck_Pos.f s0 s1 s2 s3 s4 s5 s6 s7 s8 s9 = some (s1, s0, s1, s2, s3, s4, s5, s6, s7, s8, s9) := rfl
theorem drate_f (s0 s1 s2 s3 : Int) (s4 : Bool) (s5 s6 s7 s8 s9 : Int) : deck_Deck_Rate.f s0 s1 s2 s3 s4 s5 s6 s7 s8 s9 = some (s2, s3, s0, s1, s2, s3, s4, s5, s6, s7, s8, s9) := rfl
theorem new_f : deck_New.f = some (0, 0, 1, 1, false, 0, 0, 0, 0, 0) := rfl
theorem dfirst_true (K : Nat) : tiklaw23_first.f (K + 1) = some true := by
  have h1 : ∀ s0 s1 s2 s3 s4 s5 s6 s7 s8 s9, deck_Deck_Speed.f K s0 s1 s2 s3 s4 s5 s6 s7 s8 s9 5 9221120237041090560 = some (10, s0, s1, s2, s3, s4, s5, s6, s7, s8, s9) := by
    intro s0 s1 s2 s3 s4 s5 s6 s7 s8 s9
    have : rate_Of.f 9221120237041090560 = some (0, 0, 10) := by decide +kernel
    unfold deck_Deck_Speed.f
    rw [this]
    rfl
  have h2 : rate_From.f 9221120237041090560 = some 9221120237041090560 := by decide +kernel
  unfold tiklaw23_first.f
  rw [new_f, Option.bind_some, if_neg (by decide), mode_f, Option.bind_some, if_pos rfl]
  have e1 : deck_Deck_Play.f 0 0 1 1 false 0 0 0 0 0 5 0 9 = some (13, 0, 0, 1, 1, false, 0, 0, 0, 0, 0) := rfl
  have e2 : deck_Deck_Pause.f 0 0 1 1 false 0 0 0 0 0 5 0 9 = some (0, 1, 9, 1, 1, false, 0, 0, 0, 0, 0) := rfl
  have e3 : deck_Deck_Seek.f 1 9 1 1 false 0 0 0 0 0 5 2 9 1 = some (12, 1, 9, 1, 1, false, 0, 0, 0, 0, 0) := rfl
  rw [e1, Option.bind_some, if_pos rfl, e2, Option.bind_some]
  show tiklaw23_first.j0 (K + 1) false 1 9 1 1 false 0 0 0 0 0 = some true
  rw [tiklaw23_first.j0]
  rw [if_neg (by decide), mode_f, Option.bind_some, if_pos rfl, pos_f, Option.bind_some, if_pos rfl, e3, Option.bind_some, if_pos rfl, h2, Option.bind_some, h1, Option.bind_some, if_pos rfl, drate_f, Option.bind_some]
  rfl
end Go.Proofs.YtlgfmmkabnbllaaDoor.Hand
