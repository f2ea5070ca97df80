/- Texts of this claim, put together. -/
import Derived.Test.YtlgfmmkabnbllaaDoorProg
import Derived.Below
import Derived.Deep.Draws
import Derived.Deep.AppendLies
import Derived.Maps.AppendAt
import Derived.OwnWalk
import Derived.Laws.BytesArg
import Derived.Laws.MakeOwn
import Derived.Laws.OwnMore
import Derived.Deep.OwnRows
import Derived.Tactics
import Derived.Lib.ConvBytes
import Derived.Laws.Slices
import Derived.WalkKit
import Derived.KernelRfl
import Derived.RowKit3
import Derived.Deep.LoopGhost
import Derived.Deep.QuietTactic
import Derived.BigQuiet
import Derived.WideLaws
import Derived.Deep.DeepCutAuto
import Derived.Deep.CutBlock
import Derived.Deep.RegionHeld3
import Derived.Laws.Rows
import Derived.Lib.AppendStr
import Derived.ArgAppend
import Derived.Laws.IdiomCopy
import Derived.OrdersHeld
import Derived.Laws.BitsLemmas
import Derived.RowKit
import Derived.Test.YtlgfmmkabnbllaaDoorMDPWWords
import Derived.Test.YtlgfmmkabnbllaaDoorMDPWLast
import Derived.Test.YtlgfmmkabnbllaaDoorMDPWTab
import Derived.Test.YtlgfmmkabnbllaaDoorMDPWApart
import Derived.Test.YtlgfmmkabnbllaaDoorMDPWFoot
import Derived.Test.YtlgfmmkabnbllaaDoorMDPWShare
import Derived.Test.YtlgfmmkabnbllaaDoorMDPWN
import Derived.Test.YtlgfmmkabnbllaaDoorMDPWEqStruct
import Derived.Test.YtlgfmmkabnbllaaDoorMDPWRepsOne
import Derived.Test.YtlgfmmkabnbllaaDoorMDPWInv
import Derived.Test.YtlgfmmkabnbllaaDoorMDPWMore
import Derived.StillTailTactics
set_option linter.unusedVariables false
set_option linter.unusedSimpArgs false
namespace Go.Proofs.YtlgfmmkabnbllaaDoor.PD
open Go.RowKit Go.Proofs.YtlgfmmkabnbllaaDoorW.PrintWords Go.Proofs.YtlgfmmkabnbllaaDoorW.PrintLast Go.Proofs.YtlgfmmkabnbllaaDoorW.PrintMore
attribute [local go_sem] max2_int min2_int max_two min_two max_three min_three max_four min_four
set_option linter.unusedVariables false
set_option linter.unusedSimpArgs false
def errW : Option Int → Value
  | none => .nilIface
  | some c => .iface 0 (.int .i64 c)
theorem errW_none : errW none = .nilIface := rfl
theorem errW_some (c : Int) : errW (some c) = .iface 0 (.int .i64 c) := rfl
end Go.Proofs.YtlgfmmkabnbllaaDoor.PD
namespace Go.Proofs.YtlgfmmkabnbllaaDoor.PD
open Go.RowKit Go.Proofs.YtlgfmmkabnbllaaDoorW.PrintWords Go.Proofs.YtlgfmmkabnbllaaDoorW.PrintLast Go.Proofs.YtlgfmmkabnbllaaDoorW.PrintMore
attribute [local go_sem] max2_int min2_int max_two min_two max_three min_three max_four min_four
set_option linter.unusedVariables false
set_option linter.unusedSimpArgs false
def IsS43 (w0 W : World) (g : Nat) (f0 : Int) (f1 : Int) (f2 : Int) (f3 : Int) (f4 : Int) (f5 : Int) (f6 : Int) : Prop := W.heap[g]? = some (.cells #[.int .i64 f0, .int .u64 f1, .int .u64 f2, .int .u64 f3, .int .u64 f4, .int .u64 f5, .int .u64 f6] 43 (0, 0)) ∧ w0.heap.size ≤ g
theorem IsS43.grown {w0 W : World} {g : Nat} {f0 : Int} {f1 : Int} {f2 : Int} {f3 : Int} {f4 : Int} {f5 : Int} {f6 : Int} {W1 : World} {row : Option Nat} (h : IsS43 w0 W g f0 f1 f2 f3 f4 f5 f6) (hw : W.grownBy W1 row) (hne : some g ≠ row) : IsS43 w0 W1 g f0 f1 f2 f3 f4 f5 f6 := by
  obtain ⟨hb, hg⟩ := h
  exact ⟨blk_grown hb hw hne, hg⟩
theorem IsS43.below {w0 W : World} {g : Nat} {f0 : Int} {f1 : Int} {f2 : Int} {f3 : Int} {f4 : Int} {f5 : Int} {f6 : Int} {W1 : World} (h : IsS43 w0 W g f0 f1 f2 f3 f4 f5 f6) (hw : Below W.heap.size W W1) : IsS43 w0 W1 g f0 f1 f2 f3 f4 f5 f6 := h.grown (grown_of_below hw none) (by simp)
theorem IsS43.alloc {w0 W : World} {g : Nat} {f0 : Int} {f1 : Int} {f2 : Int} {f3 : Int} {f4 : Int} {f5 : Int} {f6 : Int} (h : IsS43 w0 W g f0 f1 f2 f3 f4 f5 f6) (o : Obj) : IsS43 w0 (W.alloc o) g f0 f1 f2 f3 f4 f5 f6 := h.below (below_alloc (Below.refl _ _) o)
theorem IsS43.drew {w0 W : World} {g : Nat} {f0 : Int} {f1 : Int} {f2 : Int} {f3 : Int} {f4 : Int} {f5 : Int} {f6 : Int} (h : IsS43 w0 W g f0 f1 f2 f3 f4 f5 f6) : IsS43 w0 W.drew g f0 f1 f2 f3 f4 f5 f6 := h
theorem IsS43.lt {w0 W : World} {g : Nat} {f0 : Int} {f1 : Int} {f2 : Int} {f3 : Int} {f4 : Int} {f5 : Int} {f6 : Int} (h : IsS43 w0 W g f0 f1 f2 f3 f4 f5 f6) : g < W.heap.size := by
  obtain ⟨hb, hg⟩ := h
  exact blk_lt hb
theorem IsS43.ge {w0 W : World} {g : Nat} {f0 : Int} {f1 : Int} {f2 : Int} {f3 : Int} {f4 : Int} {f5 : Int} {f6 : Int} (h : IsS43 w0 W g f0 f1 f2 f3 f4 f5 f6) : w0.heap.size ≤ g := by
  obtain ⟨hb, hg⟩ := h
  exact hg
theorem IsS43.far {w0 W : World} {g : Nat} {f0 : Int} {f1 : Int} {f2 : Int} {f3 : Int} {f4 : Int} {f5 : Int} {f6 : Int} {p : Addr} (h : IsS43 w0 W g f0 f1 f2 f3 f4 f5 f6) (hne : g ≠ p.block) (u : Value) : IsS43 w0 (W.setCell p u) g f0 f1 f2 f3 f4 f5 f6 := by
  obtain ⟨hb, hg⟩ := h
  exact ⟨blk_far hb hne u, hg⟩
theorem cellS43_0 {W : World} {g : Nat} {f0 : Int} {f1 : Int} {f2 : Int} {f3 : Int} {f4 : Int} {f5 : Int} {f6 : Int} (h : W.heap[g]? = some (.cells #[.int .i64 f0, .int .u64 f1, .int .u64 f2, .int .u64 f3, .int .u64 f4, .int .u64 f5, .int .u64 f6] 43 (0, 0))) : W.cell? ⟨g, 0, none⟩ = some (.int .i64 f0) := (blk_cell h 0).trans rfl
theorem IsS43.set_0 {w0 W : World} {g : Nat} {f0 : Int} {f1 : Int} {f2 : Int} {f3 : Int} {f4 : Int} {f5 : Int} {f6 : Int} (h : IsS43 w0 W g f0 f1 f2 f3 f4 f5 f6) (x : Int) : IsS43 w0 (W.setCell ⟨g, 0, none⟩ (.int .i64 x)) g x f1 f2 f3 f4 f5 f6 := by
  obtain ⟨hb, hg⟩ := h
  exact ⟨by simpa using blk_set hb 0 (.int .i64 x), hg⟩
theorem cellS43_1 {W : World} {g : Nat} {f0 : Int} {f1 : Int} {f2 : Int} {f3 : Int} {f4 : Int} {f5 : Int} {f6 : Int} (h : W.heap[g]? = some (.cells #[.int .i64 f0, .int .u64 f1, .int .u64 f2, .int .u64 f3, .int .u64 f4, .int .u64 f5, .int .u64 f6] 43 (0, 0))) : W.cell? ⟨g, 1, none⟩ = some (.int .u64 f1) := (blk_cell h 1).trans rfl
theorem IsS43.set_1 {w0 W : World} {g : Nat} {f0 : Int} {f1 : Int} {f2 : Int} {f3 : Int} {f4 : Int} {f5 : Int} {f6 : Int} (h : IsS43 w0 W g f0 f1 f2 f3 f4 f5 f6) (x : Int) : IsS43 w0 (W.setCell ⟨g, 1, none⟩ (.int .u64 x)) g f0 x f2 f3 f4 f5 f6 := by
  obtain ⟨hb, hg⟩ := h
  exact ⟨by simpa using blk_set hb 1 (.int .u64 x), hg⟩
theorem cellS43_2 {W : World} {g : Nat} {f0 : Int} {f1 : Int} {f2 : Int} {f3 : Int} {f4 : Int} {f5 : Int} {f6 : Int} (h : W.heap[g]? = some (.cells #[.int .i64 f0, .int .u64 f1, .int .u64 f2, .int .u64 f3, .int .u64 f4, .int .u64 f5, .int .u64 f6] 43 (0, 0))) : W.cell? ⟨g, 2, none⟩ = some (.int .u64 f2) := (blk_cell h 2).trans rfl
theorem IsS43.set_2 {w0 W : World} {g : Nat} {f0 : Int} {f1 : Int} {f2 : Int} {f3 : Int} {f4 : Int} {f5 : Int} {f6 : Int} (h : IsS43 w0 W g f0 f1 f2 f3 f4 f5 f6) (x : Int) : IsS43 w0 (W.setCell ⟨g, 2, none⟩ (.int .u64 x)) g f0 f1 x f3 f4 f5 f6 := by
  obtain ⟨hb, hg⟩ := h
  exact ⟨by simpa using blk_set hb 2 (.int .u64 x), hg⟩
theorem cellS43_3 {W : World} {g : Nat} {f0 : Int} {f1 : Int} {f2 : Int} {f3 : Int} {f4 : Int} {f5 : Int} {f6 : Int} (h : W.heap[g]? = some (.cells #[.int .i64 f0, .int .u64 f1, .int .u64 f2, .int .u64 f3, .int .u64 f4, .int .u64 f5, .int .u64 f6] 43 (0, 0))) : W.cell? ⟨g, 3, none⟩ = some (.int .u64 f3) := (blk_cell h 3).trans rfl
theorem IsS43.set_3 {w0 W : World} {g : Nat} {f0 : Int} {f1 : Int} {f2 : Int} {f3 : Int} {f4 : Int} {f5 : Int} {f6 : Int} (h : IsS43 w0 W g f0 f1 f2 f3 f4 f5 f6) (x : Int) : IsS43 w0 (W.setCell ⟨g, 3, none⟩ (.int .u64 x)) g f0 f1 f2 x f4 f5 f6 := by
  obtain ⟨hb, hg⟩ := h
  exact ⟨by simpa using blk_set hb 3 (.int .u64 x), hg⟩
theorem cellS43_4 {W : World} {g : Nat} {f0 : Int} {f1 : Int} {f2 : Int} {f3 : Int} {f4 : Int} {f5 : Int} {f6 : Int} (h : W.heap[g]? = some (.cells #[.int .i64 f0, .int .u64 f1, .int .u64 f2, .int .u64 f3, .int .u64 f4, .int .u64 f5, .int .u64 f6] 43 (0, 0))) : W.cell? ⟨g, 4, none⟩ = some (.int .u64 f4) := (blk_cell h 4).trans rfl
theorem IsS43.set_4 {w0 W : World} {g : Nat} {f0 : Int} {f1 : Int} {f2 : Int} {f3 : Int} {f4 : Int} {f5 : Int} {f6 : Int} (h : IsS43 w0 W g f0 f1 f2 f3 f4 f5 f6) (x : Int) : IsS43 w0 (W.setCell ⟨g, 4, none⟩ (.int .u64 x)) g f0 f1 f2 f3 x f5 f6 := by
  obtain ⟨hb, hg⟩ := h
  exact ⟨by simpa using blk_set hb 4 (.int .u64 x), hg⟩
theorem cellS43_5 {W : World} {g : Nat} {f0 : Int} {f1 : Int} {f2 : Int} {f3 : Int} {f4 : Int} {f5 : Int} {f6 : Int} (h : W.heap[g]? = some (.cells #[.int .i64 f0, .int .u64 f1, .int .u64 f2, .int .u64 f3, .int .u64 f4, .int .u64 f5, .int .u64 f6] 43 (0, 0))) : W.cell? ⟨g, 5, none⟩ = some (.int .u64 f5) := (blk_cell h 5).trans rfl
theorem IsS43.set_5 {w0 W : World} {g : Nat} {f0 : Int} {f1 : Int} {f2 : Int} {f3 : Int} {f4 : Int} {f5 : Int} {f6 : Int} (h : IsS43 w0 W g f0 f1 f2 f3 f4 f5 f6) (x : Int) : IsS43 w0 (W.setCell ⟨g, 5, none⟩ (.int .u64 x)) g f0 f1 f2 f3 f4 x f6 := by
  obtain ⟨hb, hg⟩ := h
  exact ⟨by simpa using blk_set hb 5 (.int .u64 x), hg⟩
theorem cellS43_6 {W : World} {g : Nat} {f0 : Int} {f1 : Int} {f2 : Int} {f3 : Int} {f4 : Int} {f5 : Int} {f6 : Int} (h : W.heap[g]? = some (.cells #[.int .i64 f0, .int .u64 f1, .int .u64 f2, .int .u64 f3, .int .u64 f4, .int .u64 f5, .int .u64 f6] 43 (0, 0))) : W.cell? ⟨g, 6, none⟩ = some (.int .u64 f6) := (blk_cell h 6).trans rfl
theorem IsS43.set_6 {w0 W : World} {g : Nat} {f0 : Int} {f1 : Int} {f2 : Int} {f3 : Int} {f4 : Int} {f5 : Int} {f6 : Int} (h : IsS43 w0 W g f0 f1 f2 f3 f4 f5 f6) (x : Int) : IsS43 w0 (W.setCell ⟨g, 6, none⟩ (.int .u64 x)) g f0 f1 f2 f3 f4 f5 x := by
  obtain ⟨hb, hg⟩ := h
  exact ⟨by simpa using blk_set hb 6 (.int .u64 x), hg⟩
def tikref22_NewDeck.f  : Option (Int × Int × Int × Int × Int × Int × Int) := some (0, 0, 0, 0, 0, 1, 1)
set_option maxHeartbeats 8000000 in
set_option maxRecDepth 100000 in
theorem tikref22_NewDeck.calls  (r1 : Int) (r2 : Int) (r3 : Int) (r4 : Int) (r5 : Int) (r6 : Int) (r7 : Int) (w0 w : World) (hB : Below w0.heap.size w0 w) (h : tikref22_NewDeck.f  = some (r1, r2, r3, r4, r5, r6, r7)) :
    Calls Tryd.prog 14 #[] w fun e w' => ∃ g_ : Nat, e = .returned (.pointer (some ⟨g_, 0, none⟩)) ∧ IsS43 w0 w' g_ r1 r2 r3 r4 r5 r6 r7 ∧ Below w0.heap.size w0 w' ∧ Below w.heap.size w w' := by
  have hu39 := Tryd.underlying39
  have hu41 := Tryd.underlying41
  have hu43 := Tryd.underlying43
  have HBW := Aside0.mk (Below.refl w.heap.size w)
  have HW0 := Aside0.mk hB.size
  have HB := Aside0.mk hB
  clear hB
  have H : (some (0, 0, 0, 0, 0, 1, 1)) = some (r1, r2, r3, r4, r5, r6, r7) := h
  clear h
  simp only [Option.some.injEq, Prod.mk.injEq] at H
  obtain ⟨rfl, rfl, rfl, rfl, rfl, rfl, rfl⟩ := H
  go_enter Tryd.func14, Tryd.ntmps14
  go_wp2_with (first | ((with_reducible refine gate_dst (N := 4) rfl ?_); refine box_event ?hg (N := 4) ?hd (cs := #[.int .i64 0, .int .u64 0, .int .u64 0, .int .u64 0, .int .u64 0, .int .u64 1, .int .u64 1]) (t := 43) ?hr ?_; (case hd => rfl); (case hg => rfl); (case hr => first | (go_simp; done) | (go_simp; rfl)); intro gb101 hg w1 hbox hb; have n0_ := Aside0.mk (below_step HBW.out hb); have n1_ := Aside0.mk (below_step (by repeat (first | (with_reducible first | exact HB.out | apply below_alloc | apply pw_below_drewN | apply below_drew1) | exact HB.out)) hb); have n2_ := Aside0.mk (hbox); have n3_ := Aside0.mk ((by rw [hg]; exact (below_size (by repeat (first | (with_reducible first | exact HBW.out | apply below_alloc | apply pw_below_drewN | apply below_drew1) | exact HBW.out))) : w.heap.size ≤ gb101)); have n4_ := Aside0.mk ((Nat.le_trans HW0.out (by rw [hg]; exact (below_size (by repeat (first | (with_reducible first | exact HBW.out | apply below_alloc | apply pw_below_drewN | apply below_drew1) | exact HBW.out))) : w.heap.size ≤ gb101) : w0.heap.size ≤ gb101)); clear HBW; clear HB; have HBW := n0_; have HB := n1_; have BK101 := n2_; have GW101 := n3_; have GE101 := n4_; clear n0_ n1_ n2_ n3_ n4_; clear hb hbox hg))
  go_ret
  exact ⟨_, rfl, (show IsS43 w0 _ gb101 0 0 0 0 0 1 1 from ⟨by (with_reducible repeat (first | refine blk_drewN ?_ _ | refine blk_drew ?_ | refine blk_alloc ?_ _)); exact BK101.out, GE101.out⟩), by repeat (first | (with_reducible first | exact HB.out | apply below_alloc | apply pw_below_drewN | apply below_drew1 | refine below_set ?_ GE101.out) | exact HB.out), by repeat (first | (with_reducible first | exact HBW.out | apply below_alloc | apply pw_below_drewN | apply below_drew1 | refine below_set ?_ GW101.out) | exact HBW.out)⟩
def tikref22_Deck_Rate.f (s0_0 : Int) (s0_1 : Int) (s0_2 : Int) (s0_3 : Int) (s0_4 : Int) (s0_5 : Int) (s0_6 : Int) : Option (Int × Int × Int × Int × Int × Int × Int × Int × Int) := some (s0_5, s0_6, s0_0, s0_1, s0_2, s0_3, s0_4, s0_5, s0_6)
set_option maxHeartbeats 8000000 in
set_option maxRecDepth 100000 in
theorem tikref22_Deck_Rate.calls (g : Nat) (s0_0 : Int) (s0_1 : Int) (s0_2 : Int) (s0_3 : Int) (s0_4 : Int) (s0_5 : Int) (s0_6 : Int) (r1 : Int) (r2 : Int) (r3 : Int) (r4 : Int) (r5 : Int) (r6 : Int) (r7 : Int) (r8 : Int) (r9 : Int) (w0 w : World) (hI : IsS43 w0 w g s0_0 s0_1 s0_2 s0_3 s0_4 s0_5 s0_6) (hB : Below w0.heap.size w0 w) (h : tikref22_Deck_Rate.f s0_0 s0_1 s0_2 s0_3 s0_4 s0_5 s0_6 = some (r1, r2, r3, r4, r5, r6, r7, r8, r9)) :
    Calls Tryd.prog 20 #[.pointer (some ⟨g, 0, none⟩)] w fun e w' => e = .returned (.agg #[.int .u64 r1, .int .u64 r2]) ∧ IsS43 w0 w' g r3 r4 r5 r6 r7 r8 r9 ∧ Below w0.heap.size w0 w' ∧ KeepBut w w' g none := by
  have hu39 := Tryd.underlying39
  have HI0 := Aside0.mk hI
  have HK := Aside0.mk (KeepBut.refl w g none)
  have HL := Aside0.mk hB.size
  clear hI
  have HW0 := Aside0.mk hB.size
  have HB := Aside0.mk hB
  clear hB
  have H : (some (s0_5, s0_6, s0_0, s0_1, s0_2, s0_3, s0_4, s0_5, s0_6)) = some (r1, r2, r3, r4, r5, r6, r7, r8, r9) := h
  clear h
  simp only [Option.some.injEq, Prod.mk.injEq] at H
  obtain ⟨rfl, rfl, rfl, rfl, rfl, rfl, rfl, rfl, rfl⟩ := H
  go_enter Tryd.func20, Tryd.ntmps20
  go_wp2_with (first | ((with_reducible refine gate_dst (N := 2) rfl ?_); refine box_event ?hg (N := 2) ?hd (cs := #[.int .u64 0, .int .u64 0]) (t := 39) ?hr ?_; (case hd => rfl); (case hg => rfl); (case hr => first | (go_simp; done) | (go_simp; rfl)); intro gb102 hg w2 hbox hb; have n0_ := Aside0.mk (IsS43.below (by repeat (first | (with_reducible first | exact HI0.out | apply IsS43.alloc | apply IsS43.drewN | apply IsS43.drew | apply IsS43.set_0 | apply IsS43.set_1 | apply IsS43.set_2 | apply IsS43.set_3 | apply IsS43.set_4 | apply IsS43.set_5 | apply IsS43.set_6) | exact HI0.out)) hb); have n1_ := Aside0.mk (KeepBut.trans (by repeat (first | (with_reducible first | exact HK.out | apply KeepBut.set_ | apply keep_drewN | apply keep_drew | apply keep_alloc) | exact HK.out)) (KeepBut.of_below hb g none) (.inl rfl)); have n2_ := Aside0.mk (below_step (by repeat (first | (with_reducible first | exact HB.out | apply below_alloc | apply pw_below_drewN | apply below_drew1 | refine below_set ?_ (IsS43.ge HI0.out)) | exact HB.out)) hb); have n3_ := Aside0.mk (hbox); have n4_ := Aside0.mk ((by rw [hg]; exact (keep_size (w := w) (g := g) (row := none) (by repeat (first | (with_reducible first | exact HK.out | apply KeepBut.set_ | apply keep_drewN | apply keep_drew | apply keep_alloc) | exact HK.out))) : w.heap.size ≤ gb102)); have n5_ := Aside0.mk ((Nat.le_trans HW0.out (by rw [hg]; exact (keep_size (w := w) (g := g) (row := none) (by repeat (first | (with_reducible first | exact HK.out | apply KeepBut.set_ | apply keep_drewN | apply keep_drew | apply keep_alloc) | exact HK.out))) : w.heap.size ≤ gb102) : w0.heap.size ≤ gb102)); have n6_ := Aside0.mk ((by rw [hg]; exact Nat.ne_of_lt (IsS43.lt (show IsS43 w0 _ g s0_0 s0_1 s0_2 s0_3 s0_4 s0_5 s0_6 from by repeat (first | (with_reducible first | exact HI0.out | apply IsS43.alloc | apply IsS43.drewN | apply IsS43.drew | apply IsS43.set_0 | apply IsS43.set_1 | apply IsS43.set_2 | apply IsS43.set_3 | apply IsS43.set_4 | apply IsS43.set_5 | apply IsS43.set_6) | exact HI0.out))) : g ≠ gb102)); have n7_ := Aside0.mk ((by rw [hg]; exact Nat.ne_of_gt (IsS43.lt (show IsS43 w0 _ g s0_0 s0_1 s0_2 s0_3 s0_4 s0_5 s0_6 from by repeat (first | (with_reducible first | exact HI0.out | apply IsS43.alloc | apply IsS43.drewN | apply IsS43.drew | apply IsS43.set_0 | apply IsS43.set_1 | apply IsS43.set_2 | apply IsS43.set_3 | apply IsS43.set_4 | apply IsS43.set_5 | apply IsS43.set_6) | exact HI0.out))) : gb102 ≠ g)); clear HI0; clear HK; clear HB; have HI0 := n0_; have HK := n1_; have HB := n2_; have BK102 := n3_; have GW102 := n4_; have GE102 := n5_; have NB0_102 := n6_; have NB102_0 := n7_; clear n0_ n1_ n2_ n3_ n4_ n5_ n6_ n7_; clear hb hbox hg; obtain ⟨HGz3, hgz3⟩ := HI0.out; have hcz3_0 := cellS43_0 HGz3; have hcz3_1 := cellS43_1 HGz3; have hcz3_2 := cellS43_2 HGz3; have hcz3_3 := cellS43_3 HGz3; have hcz3_4 := cellS43_4 HGz3; have hcz3_5 := cellS43_5 HGz3; have hcz3_6 := cellS43_6 HGz3; have hfz3_0 := blk_frozen HGz3 0; have hfz3_1 := blk_frozen HGz3 1; have hfz3_2 := blk_frozen HGz3 2; have hfz3_3 := blk_frozen HGz3 3; have hfz3_4 := blk_frozen HGz3 4; have hfz3_5 := blk_frozen HGz3 5; have hfz3_6 := blk_frozen HGz3 6; clear HGz3 hgz3; have hnb4 := NB102_0.out; have hnc4 := NB0_102.out; have hcz5_0 : w2.cell? ⟨gb102, 0, none⟩ = some (.int .u64 0) := (blk_cell BK102.out 0).trans rfl; have hcz5_1 : w2.cell? ⟨gb102, 1, none⟩ = some (.int .u64 0) := (blk_cell BK102.out 1).trans rfl; have hfz5_0 := blk_frozen BK102.out 0; have hfz5_1 := blk_frozen BK102.out 1))
  refine bodyPost_ret (results_cell_row rfl _ _ gb102 39 #[.int .u64 s0_5, .int .u64 s0_6] (0, 0) _ rfl (by (with_reducible repeat (first | refine blk_drewN ?_ _ | refine blk_drew ?_ | refine blk_alloc ?_ _)); refine blk_put (cs := #[.int .u64 s0_5, .int .u64 0]) ?_ 1 _ rfl; (with_reducible repeat (first | refine blk_drewN ?_ _ | refine blk_drew ?_ | refine blk_alloc ?_ _)); refine blk_put (cs := #[.int .u64 0, .int .u64 0]) ?_ 0 _ rfl; (with_reducible repeat (first | refine blk_drewN ?_ _ | refine blk_drew ?_ | refine blk_alloc ?_ _)); exact BK102.out) Tryd.underlying39 rfl (by kernel_rfl)) rfl ?_
  exact ⟨by first | rfl | (simp [errW_none, errW_some] <;> rfl) | (simp [*, errW_none, errW_some] <;> rfl), by repeat (first | (with_reducible first | exact HI0.out | apply IsS43.alloc | apply IsS43.drewN | apply IsS43.drew | apply IsS43.set_0 | apply IsS43.set_1 | apply IsS43.set_2 | apply IsS43.set_3 | apply IsS43.set_4 | apply IsS43.set_5 | apply IsS43.set_6 | refine IsS43.far ?_ NB0_102.out _) | exact HI0.out), by repeat (first | (with_reducible first | exact HB.out | apply below_alloc | apply pw_below_drewN | apply below_drew1 | refine below_set ?_ (IsS43.ge HI0.out) | refine below_set ?_ GE102.out) | exact HB.out), by repeat (first | (with_reducible first | exact HK.out | apply KeepBut.set_ | apply keep_drewN | apply keep_drew | apply keep_alloc | refine keep_far ?_ GW102.out _) | exact HK.out)⟩
def tikref22_Deck_Live.f (s0_0 : Int) (s0_1 : Int) (s0_2 : Int) (s0_3 : Int) (s0_4 : Int) (s0_5 : Int) (s0_6 : Int) (a1 : Int) : Option (Int × Int × Int × Int × Int × Int × Int) := some (0, s0_1, s0_2, s0_3, s0_4, s0_5, s0_6)
set_option maxHeartbeats 8000000 in
set_option maxRecDepth 100000 in
theorem tikref22_Deck_Live.calls (g : Nat) (s0_0 : Int) (s0_1 : Int) (s0_2 : Int) (s0_3 : Int) (s0_4 : Int) (s0_5 : Int) (s0_6 : Int) (a1 : Int) (r1 : Int) (r2 : Int) (r3 : Int) (r4 : Int) (r5 : Int) (r6 : Int) (r7 : Int) (w0 w : World) (hI : IsS43 w0 w g s0_0 s0_1 s0_2 s0_3 s0_4 s0_5 s0_6) (hB : Below w0.heap.size w0 w) (h : tikref22_Deck_Live.f s0_0 s0_1 s0_2 s0_3 s0_4 s0_5 s0_6 a1 = some (r1, r2, r3, r4, r5, r6, r7)) :
    Calls Tryd.prog 45 #[.pointer (some ⟨g, 0, none⟩), .int .u64 a1] w fun e w' => e = .returned (.tuple #[]) ∧ IsS43 w0 w' g r1 r2 r3 r4 r5 r6 r7 ∧ Below w0.heap.size w0 w' ∧ KeepBut w w' g none := by
  have HI0 := Aside0.mk hI
  have HK := Aside0.mk (KeepBut.refl w g none)
  have HL := Aside0.mk hB.size
  clear hI
  have HW0 := Aside0.mk hB.size
  have HB := Aside0.mk hB
  clear hB
  have H : (some (0, s0_1, s0_2, s0_3, s0_4, s0_5, s0_6)) = some (r1, r2, r3, r4, r5, r6, r7) := h
  clear h
  simp only [Option.some.injEq, Prod.mk.injEq] at H
  obtain ⟨rfl, rfl, rfl, rfl, rfl, rfl, rfl⟩ := H
  obtain ⟨HGz3, hgz3⟩ := HI0.out
  have hcz3_0 := cellS43_0 HGz3
  have hcz3_1 := cellS43_1 HGz3
  have hcz3_2 := cellS43_2 HGz3
  have hcz3_3 := cellS43_3 HGz3
  have hcz3_4 := cellS43_4 HGz3
  have hcz3_5 := cellS43_5 HGz3
  have hcz3_6 := cellS43_6 HGz3
  have hfz3_0 := blk_frozen HGz3 0
  have hfz3_1 := blk_frozen HGz3 1
  have hfz3_2 := blk_frozen HGz3 2
  have hfz3_3 := blk_frozen HGz3 3
  have hfz3_4 := blk_frozen HGz3 4
  have hfz3_5 := blk_frozen HGz3 5
  have hfz3_6 := blk_frozen HGz3 6
  clear HGz3 hgz3
  go_enter Tryd.func45, Tryd.ntmps45
  go_wp2
  first | go_end0 | ((try simp only [Exit.inBlock, Exit.then]); refine bodyPost_ret (results_none rfl _ _ _) rfl ?_)
  exact ⟨by first | rfl | (simp [errW_none, errW_some] <;> rfl) | (simp [*, errW_none, errW_some] <;> rfl), by repeat (first | (with_reducible first | exact HI0.out | apply IsS43.alloc | apply IsS43.drewN | apply IsS43.drew | apply IsS43.set_0 | apply IsS43.set_1 | apply IsS43.set_2 | apply IsS43.set_3 | apply IsS43.set_4 | apply IsS43.set_5 | apply IsS43.set_6) | exact HI0.out), by repeat (first | (with_reducible first | exact HB.out | apply below_alloc | apply pw_below_drewN | apply below_drew1 | refine below_set ?_ (IsS43.ge HI0.out)) | exact HB.out), by repeat (first | (with_reducible first | exact HK.out | apply KeepBut.set_ | apply keep_drewN | apply keep_drew | apply keep_alloc) | exact HK.out)⟩
def tikref22_may.f (a0 : Int) (a1 : Int) (a2 : Int) : Option (Bool) := if a1 ≤ a2 then (if a0 ≤ 4611686018427387904 then (some (decide (a2 ≤ 4611686018427387904))) else (some false)) else (some false)
set_option maxHeartbeats 8000000 in
set_option maxRecDepth 100000 in
theorem tikref22_may.calls (a0 : Int) (a1 : Int) (a2 : Int) (r : Bool) (w : World) (h : tikref22_may.f a0 a1 a2 = some r) :
    Calls Tryd.prog 84 #[.int .u64 a0, .int .u64 a1, .int .u64 a2] w fun e w' => e = .returned (.bool r) ∧ Drawn0 w w' := by
  have H : (if a1 ≤ a2 then (if a0 ≤ 4611686018427387904 then (some (decide (a2 ≤ 4611686018427387904))) else (some false)) else (some false)) = some r := h
  clear h
  by_cases c4 : a1 ≤ a2
  · rw [if_pos c4] at H
    have c4b0 : decide (a1 ≤ a2) = true := decide_eq_true c4
    clear c4
    by_cases c5 : a0 ≤ 4611686018427387904
    · rw [if_pos c5] at H
      have c5b0 : decide (a0 ≤ 4611686018427387904) = true := decide_eq_true c5
      clear c5
      obtain rfl := Option.some.inj H
      go_enter Tryd.func84, Tryd.ntmps84
      go_wp2
      go_ret
      exact ⟨by first | rfl | (simp; done) | (simp [*]; done), by repeat (first | exact Drawn0.refl _ | apply Drawn0.step)⟩
    · rw [if_neg c5] at H
      have c5b0 : decide (a0 ≤ 4611686018427387904) = false := decide_eq_false c5
      clear c5
      obtain rfl := Option.some.inj H
      go_enter Tryd.func84, Tryd.ntmps84
      go_wp2
      go_ret
      exact ⟨by first | rfl | (simp; done) | (simp [*]; done), by repeat (first | exact Drawn0.refl _ | apply Drawn0.step)⟩
  · rw [if_neg c4] at H
    have c4b0 : decide (a1 ≤ a2) = false := decide_eq_false c4
    clear c4
    obtain rfl := Option.some.inj H
    go_enter Tryd.func84, Tryd.ntmps84
    go_wp2
    go_ret
    exact ⟨by first | rfl | (simp; done) | (simp [*]; done), by repeat (first | exact Drawn0.refl _ | apply Drawn0.step)⟩
def tikref1_May.f (a0_0 : Int) (a0_1 : Int) : Option (Bool) := if a0_1 < 1 then (some false) else (if a0_1 > 1048576 then (some false) else (if (Go.bits .and .u64 a0_1 (IntKind.u64.wrap (a0_1 - 1))) = 0 then (if a0_0 > (IntKind.u64.wrap (1024 * a0_1)) then (some false) else (if a0_1 = 1 then (some true) else (some ((Int.tmod a0_0 2) == 1)))) else (some false)))
set_option maxHeartbeats 8000000 in
set_option maxRecDepth 100000 in
theorem tikref1_May.calls (a0_0 : Int) (a0_1 : Int) (r : Bool) (w : World) (h : tikref1_May.f a0_0 a0_1 = some r) :
    Calls Tryd.prog 109 #[.agg #[.int .u64 a0_0, .int .u64 a0_1]] w fun e w' => e = .returned (.bool r) ∧ Below w.heap.size w w' := by
  have hu39 := Tryd.underlying39
  have HB := Aside0.mk (Below.refl w.heap.size w)
  have H : (if a0_1 < 1 then (some false) else (if a0_1 > 1048576 then (some false) else (if (Go.bits .and .u64 a0_1 (IntKind.u64.wrap (a0_1 - 1))) = 0 then (if a0_0 > (IntKind.u64.wrap (1024 * a0_1)) then (some false) else (if a0_1 = 1 then (some true) else (some ((Int.tmod a0_0 2) == 1)))) else (some false)))) = some r := h
  clear h
  by_cases c2 : a0_1 < 1
  · rw [if_pos c2] at H
    have c2b0 : decide (a0_1 < 1) = true := decide_eq_true c2
    clear c2
    obtain rfl := Option.some.inj H
    go_enter Tryd.func109, Tryd.ntmps109
    go_wp2_with (first | ((with_reducible refine gate_dst (N := 1) rfl ?_); refine box_event ?hg (N := 1) ?hd (cs := #[.int .u64 a0_0, .int .u64 a0_1]) (t := 39) ?hr ?_; (case hd => rfl); (case hg => rfl); (case hr => first | (go_simp; done) | (go_simp; rfl)); intro gb103 hg w3 hbox hb; have n0_ := Aside0.mk (below_step (by repeat (first | (with_reducible first | exact HB.out | apply below_alloc | apply pw_below_drewN | apply below_drew1) | exact HB.out)) hb); have n1_ := Aside0.mk (hbox); have n2_ := Aside0.mk ((by rw [hg]; exact (below_size (by repeat (first | (with_reducible first | exact HB.out | apply below_alloc | apply pw_below_drewN | apply below_drew1) | exact HB.out))) : w.heap.size ≤ gb103)); have n3_ := Aside0.mk ((by rw [hg]; exact (below_size (by repeat (first | (with_reducible first | exact HB.out | apply below_alloc | apply pw_below_drewN | apply below_drew1) | exact HB.out))) : w.heap.size ≤ gb103)); clear HB; have HB := n0_; have BK103 := n1_; have GW103 := n2_; have GE103 := n3_; clear n0_ n1_ n2_ n3_; clear hb hbox hg; have hcz4_0 : w3.cell? ⟨gb103, 0, none⟩ = some (.int .u64 a0_0) := (blk_cell BK103.out 0).trans rfl; have hcz4_1 : w3.cell? ⟨gb103, 1, none⟩ = some (.int .u64 a0_1) := (blk_cell BK103.out 1).trans rfl; have hfz4_0 := blk_frozen BK103.out 0; have hfz4_1 := blk_frozen BK103.out 1))
    go_ret
    exact ⟨by first | rfl | (simp [errW_none, errW_some] <;> rfl) | (simp [*, errW_none, errW_some] <;> rfl), by repeat (first | (with_reducible first | exact HB.out | apply below_alloc | apply pw_below_drewN | apply below_drew1 | refine below_set ?_ GE103.out) | exact HB.out)⟩
  · rw [if_neg c2] at H
    have c2b0 : decide (a0_1 < 1) = false := decide_eq_false c2
    clear c2
    by_cases c5 : a0_1 > 1048576
    · rw [if_pos c5] at H
      have c5b0 : decide (1048576 < a0_1) = true := decide_eq_true c5
      clear c5
      obtain rfl := Option.some.inj H
      go_enter Tryd.func109, Tryd.ntmps109
      go_wp2_with (first | ((with_reducible refine gate_dst (N := 1) rfl ?_); refine box_event ?hg (N := 1) ?hd (cs := #[.int .u64 a0_0, .int .u64 a0_1]) (t := 39) ?hr ?_; (case hd => rfl); (case hg => rfl); (case hr => first | (go_simp; done) | (go_simp; rfl)); intro gb103 hg w6 hbox hb; have n0_ := Aside0.mk (below_step (by repeat (first | (with_reducible first | exact HB.out | apply below_alloc | apply pw_below_drewN | apply below_drew1) | exact HB.out)) hb); have n1_ := Aside0.mk (hbox); have n2_ := Aside0.mk ((by rw [hg]; exact (below_size (by repeat (first | (with_reducible first | exact HB.out | apply below_alloc | apply pw_below_drewN | apply below_drew1) | exact HB.out))) : w.heap.size ≤ gb103)); have n3_ := Aside0.mk ((by rw [hg]; exact (below_size (by repeat (first | (with_reducible first | exact HB.out | apply below_alloc | apply pw_below_drewN | apply below_drew1) | exact HB.out))) : w.heap.size ≤ gb103)); clear HB; have HB := n0_; have BK103 := n1_; have GW103 := n2_; have GE103 := n3_; clear n0_ n1_ n2_ n3_; clear hb hbox hg; have hcz7_0 : w6.cell? ⟨gb103, 0, none⟩ = some (.int .u64 a0_0) := (blk_cell BK103.out 0).trans rfl; have hcz7_1 : w6.cell? ⟨gb103, 1, none⟩ = some (.int .u64 a0_1) := (blk_cell BK103.out 1).trans rfl; have hfz7_0 := blk_frozen BK103.out 0; have hfz7_1 := blk_frozen BK103.out 1))
      go_ret
      exact ⟨by first | rfl | (simp [errW_none, errW_some] <;> rfl) | (simp [*, errW_none, errW_some] <;> rfl), by repeat (first | (with_reducible first | exact HB.out | apply below_alloc | apply pw_below_drewN | apply below_drew1 | refine below_set ?_ GE103.out) | exact HB.out)⟩
    · rw [if_neg c5] at H
      have c5b0 : decide (1048576 < a0_1) = false := decide_eq_false c5
      clear c5
      by_cases c8 : (Go.bits .and .u64 a0_1 (IntKind.u64.wrap (a0_1 - 1))) = 0
      · rw [if_pos c8] at H
        have c8b0 : ((Go.bits .and .u64 a0_1 (IntKind.u64.wrap (a0_1 - 1))) == 0) = true := beq_iff_eq.mpr c8
        have c8b1 : ((Go.bits .and .u64 a0_1 (IntKind.u64.wrap (a0_1 - 1))) != 0) = false := bne_eq_false_iff_eq.mpr c8
        clear c8
        by_cases c9 : a0_0 > (IntKind.u64.wrap (1024 * a0_1))
        · rw [if_pos c9] at H
          have c9b0 : decide ((IntKind.u64.wrap (1024 * a0_1)) < a0_0) = true := decide_eq_true c9
          clear c9
          obtain rfl := Option.some.inj H
          go_enter Tryd.func109, Tryd.ntmps109
          go_wp2_with (first | ((with_reducible refine gate_dst (N := 1) rfl ?_); refine box_event ?hg (N := 1) ?hd (cs := #[.int .u64 a0_0, .int .u64 a0_1]) (t := 39) ?hr ?_; (case hd => rfl); (case hg => rfl); (case hr => first | (go_simp; done) | (go_simp; rfl)); intro gb103 hg w10 hbox hb; have n0_ := Aside0.mk (below_step (by repeat (first | (with_reducible first | exact HB.out | apply below_alloc | apply pw_below_drewN | apply below_drew1) | exact HB.out)) hb); have n1_ := Aside0.mk (hbox); have n2_ := Aside0.mk ((by rw [hg]; exact (below_size (by repeat (first | (with_reducible first | exact HB.out | apply below_alloc | apply pw_below_drewN | apply below_drew1) | exact HB.out))) : w.heap.size ≤ gb103)); have n3_ := Aside0.mk ((by rw [hg]; exact (below_size (by repeat (first | (with_reducible first | exact HB.out | apply below_alloc | apply pw_below_drewN | apply below_drew1) | exact HB.out))) : w.heap.size ≤ gb103)); clear HB; have HB := n0_; have BK103 := n1_; have GW103 := n2_; have GE103 := n3_; clear n0_ n1_ n2_ n3_; clear hb hbox hg; have hcz11_0 : w10.cell? ⟨gb103, 0, none⟩ = some (.int .u64 a0_0) := (blk_cell BK103.out 0).trans rfl; have hcz11_1 : w10.cell? ⟨gb103, 1, none⟩ = some (.int .u64 a0_1) := (blk_cell BK103.out 1).trans rfl; have hfz11_0 := blk_frozen BK103.out 0; have hfz11_1 := blk_frozen BK103.out 1))
          go_ret
          exact ⟨by first | rfl | (simp [errW_none, errW_some] <;> rfl) | (simp [*, errW_none, errW_some] <;> rfl), by repeat (first | (with_reducible first | exact HB.out | apply below_alloc | apply pw_below_drewN | apply below_drew1 | refine below_set ?_ GE103.out) | exact HB.out)⟩
        · rw [if_neg c9] at H
          have c9b0 : decide ((IntKind.u64.wrap (1024 * a0_1)) < a0_0) = false := decide_eq_false c9
          clear c9
          by_cases c12 : a0_1 = 1
          · rw [if_pos c12] at H
            have c12b0 : (a0_1 == 1) = true := beq_iff_eq.mpr c12
            have c12b1 : (a0_1 != 1) = false := bne_eq_false_iff_eq.mpr c12
            clear c12
            obtain rfl := Option.some.inj H
            go_enter Tryd.func109, Tryd.ntmps109
            go_wp2_with (first | ((with_reducible refine gate_dst (N := 1) rfl ?_); refine box_event ?hg (N := 1) ?hd (cs := #[.int .u64 a0_0, .int .u64 a0_1]) (t := 39) ?hr ?_; (case hd => rfl); (case hg => rfl); (case hr => first | (go_simp; done) | (go_simp; rfl)); intro gb103 hg w13 hbox hb; have n0_ := Aside0.mk (below_step (by repeat (first | (with_reducible first | exact HB.out | apply below_alloc | apply pw_below_drewN | apply below_drew1) | exact HB.out)) hb); have n1_ := Aside0.mk (hbox); have n2_ := Aside0.mk ((by rw [hg]; exact (below_size (by repeat (first | (with_reducible first | exact HB.out | apply below_alloc | apply pw_below_drewN | apply below_drew1) | exact HB.out))) : w.heap.size ≤ gb103)); have n3_ := Aside0.mk ((by rw [hg]; exact (below_size (by repeat (first | (with_reducible first | exact HB.out | apply below_alloc | apply pw_below_drewN | apply below_drew1) | exact HB.out))) : w.heap.size ≤ gb103)); clear HB; have HB := n0_; have BK103 := n1_; have GW103 := n2_; have GE103 := n3_; clear n0_ n1_ n2_ n3_; clear hb hbox hg; have hcz14_0 : w13.cell? ⟨gb103, 0, none⟩ = some (.int .u64 a0_0) := (blk_cell BK103.out 0).trans rfl; have hcz14_1 : w13.cell? ⟨gb103, 1, none⟩ = some (.int .u64 a0_1) := (blk_cell BK103.out 1).trans rfl; have hfz14_0 := blk_frozen BK103.out 0; have hfz14_1 := blk_frozen BK103.out 1))
            go_ret
            exact ⟨by first | rfl | (simp [errW_none, errW_some] <;> rfl) | (simp [*, errW_none, errW_some] <;> rfl), by repeat (first | (with_reducible first | exact HB.out | apply below_alloc | apply pw_below_drewN | apply below_drew1 | refine below_set ?_ GE103.out) | exact HB.out)⟩
          · rw [if_neg c12] at H
            have c12b0 : (a0_1 == 1) = false := beq_eq_false_iff_ne.mpr c12
            have c12b1 : (a0_1 != 1) = true := bne_iff_ne.mpr c12
            obtain rfl := Option.some.inj H
            go_enter Tryd.func109, Tryd.ntmps109
            go_wp2_with (first | ((with_reducible refine gate_dst (N := 1) rfl ?_); refine box_event ?hg (N := 1) ?hd (cs := #[.int .u64 a0_0, .int .u64 a0_1]) (t := 39) ?hr ?_; (case hd => rfl); (case hg => rfl); (case hr => first | (go_simp; done) | (go_simp; rfl)); intro gb103 hg w15 hbox hb; have n0_ := Aside0.mk (below_step (by repeat (first | (with_reducible first | exact HB.out | apply below_alloc | apply pw_below_drewN | apply below_drew1) | exact HB.out)) hb); have n1_ := Aside0.mk (hbox); have n2_ := Aside0.mk ((by rw [hg]; exact (below_size (by repeat (first | (with_reducible first | exact HB.out | apply below_alloc | apply pw_below_drewN | apply below_drew1) | exact HB.out))) : w.heap.size ≤ gb103)); have n3_ := Aside0.mk ((by rw [hg]; exact (below_size (by repeat (first | (with_reducible first | exact HB.out | apply below_alloc | apply pw_below_drewN | apply below_drew1) | exact HB.out))) : w.heap.size ≤ gb103)); clear HB; have HB := n0_; have BK103 := n1_; have GW103 := n2_; have GE103 := n3_; clear n0_ n1_ n2_ n3_; clear hb hbox hg; have hcz16_0 : w15.cell? ⟨gb103, 0, none⟩ = some (.int .u64 a0_0) := (blk_cell BK103.out 0).trans rfl; have hcz16_1 : w15.cell? ⟨gb103, 1, none⟩ = some (.int .u64 a0_1) := (blk_cell BK103.out 1).trans rfl; have hfz16_0 := blk_frozen BK103.out 0; have hfz16_1 := blk_frozen BK103.out 1))
            go_ret
            exact ⟨by first | rfl | (simp [errW_none, errW_some] <;> rfl) | (simp [*, errW_none, errW_some] <;> rfl), by repeat (first | (with_reducible first | exact HB.out | apply below_alloc | apply pw_below_drewN | apply below_drew1 | refine below_set ?_ GE103.out) | exact HB.out)⟩
      · rw [if_neg c8] at H
        have c8b0 : ((Go.bits .and .u64 a0_1 (IntKind.u64.wrap (a0_1 - 1))) == 0) = false := beq_eq_false_iff_ne.mpr c8
        have c8b1 : ((Go.bits .and .u64 a0_1 (IntKind.u64.wrap (a0_1 - 1))) != 0) = true := bne_iff_ne.mpr c8
        obtain rfl := Option.some.inj H
        go_enter Tryd.func109, Tryd.ntmps109
        go_wp2_with (first | ((with_reducible refine gate_dst (N := 1) rfl ?_); refine box_event ?hg (N := 1) ?hd (cs := #[.int .u64 a0_0, .int .u64 a0_1]) (t := 39) ?hr ?_; (case hd => rfl); (case hg => rfl); (case hr => first | (go_simp; done) | (go_simp; rfl)); intro gb103 hg w17 hbox hb; have n0_ := Aside0.mk (below_step (by repeat (first | (with_reducible first | exact HB.out | apply below_alloc | apply pw_below_drewN | apply below_drew1) | exact HB.out)) hb); have n1_ := Aside0.mk (hbox); have n2_ := Aside0.mk ((by rw [hg]; exact (below_size (by repeat (first | (with_reducible first | exact HB.out | apply below_alloc | apply pw_below_drewN | apply below_drew1) | exact HB.out))) : w.heap.size ≤ gb103)); have n3_ := Aside0.mk ((by rw [hg]; exact (below_size (by repeat (first | (with_reducible first | exact HB.out | apply below_alloc | apply pw_below_drewN | apply below_drew1) | exact HB.out))) : w.heap.size ≤ gb103)); clear HB; have HB := n0_; have BK103 := n1_; have GW103 := n2_; have GE103 := n3_; clear n0_ n1_ n2_ n3_; clear hb hbox hg; have hcz18_0 : w17.cell? ⟨gb103, 0, none⟩ = some (.int .u64 a0_0) := (blk_cell BK103.out 0).trans rfl; have hcz18_1 : w17.cell? ⟨gb103, 1, none⟩ = some (.int .u64 a0_1) := (blk_cell BK103.out 1).trans rfl; have hfz18_0 := blk_frozen BK103.out 0; have hfz18_1 := blk_frozen BK103.out 1))
        go_ret
        exact ⟨by first | rfl | (simp [errW_none, errW_some] <;> rfl) | (simp [*, errW_none, errW_some] <;> rfl), by repeat (first | (with_reducible first | exact HB.out | apply below_alloc | apply pw_below_drewN | apply below_drew1 | refine below_set ?_ GE103.out) | exact HB.out)⟩
mutual
def tikref1_Scale.j0 : Nat → Int → Int → Bool → Int → Int → Option (Int × Int × Int)
  | 0, _, _, _, _, _ => none
  | k + 1, x0, x1, x22, x105000, x105001 => if x22 = true then (some (0, 0, 1)) else (tikref1_Scale.l0 k (IntKind.u64.wrap ((IntKind.u64.wrap ((x0 / 4294967296) * x105000)) + ((IntKind.u64.wrap ((IntKind.u64.wrap ((Go.bits .and .u64 x0 4294967295) * x105000)) + x1)) / 4294967296))) (Go.bits .and .u64 (IntKind.u64.wrap ((IntKind.u64.wrap ((Go.bits .and .u64 x0 4294967295) * x105000)) + x1)) 4294967295) 0 x105000 x105001)
def tikref1_Scale.l0 : Nat → Int → Int → Int → Int → Int → Option (Int × Int × Int)
  | 0, _, _, _, _, _ => none
  | k + 1, x10, x11, x12, x105000, x105001 => if 0 ≤ (IntKind.u64.wrap (x12)) then (if (shl .u64 1 (IntKind.u64.wrap (x12))) < x105001 then (tikref1_Scale.l0 k x10 x11 (wrap64 (x12 + 1)) x105000 x105001) else (if 0 ≤ (IntKind.u64.wrap (wrap64 (31 + x12))) then (if x10 ≥ (shl .u64 1 (IntKind.u64.wrap (wrap64 (31 + x12)))) then (some (0, 0, 1)) else (if 0 ≤ (IntKind.u64.wrap (wrap64 (32 - x12))) then (if (IntKind.u64.wrap ((shl .u64 x10 (IntKind.u64.wrap (wrap64 (32 - x12)))) + (shr .u64 x11 (IntKind.u64.wrap (x12))))) > 4611686018427387904 then (some (0, 0, 1)) else (some (IntKind.u64.wrap ((shl .u64 x10 (IntKind.u64.wrap (wrap64 (32 - x12)))) + (shr .u64 x11 (IntKind.u64.wrap (x12)))), Go.bits .and .u64 x11 (IntKind.u64.wrap (x105001 - 1)), 0))) else (none))) else (none))) else (none)
end
def tikref1_Scale.f (k : Nat) (a0 : Int) (a1 : Int) (a2_0 : Int) (a2_1 : Int) : Option (Int × Int × Int) := (tikref1_May.f a2_0 a2_1).bind fun t105 => (if t105 = true then (tikref1_Scale.j0 k a0 a1 (decide (a1 ≥ a2_1)) a2_0 a2_1) else (tikref1_Scale.j0 k a0 a1 true a2_0 a2_1))
set_option maxHeartbeats 8000000 in
set_option maxRecDepth 100000 in
theorem tikref1_Scale.calls (k : Nat) (a0 : Int) (a1 : Int) (a2_0 : Int) (a2_1 : Int) (r1 : Int) (r2 : Int) (r3 : Int) (w : World) (h : tikref1_Scale.f k a0 a1 a2_0 a2_1 = some (r1, r2, r3)) :
    Calls Tryd.prog 114 #[.int .u64 a0, .int .u64 a1, .agg #[.int .u64 a2_0, .int .u64 a2_1]] w fun e w' => e = .returned (.tuple #[.int .u64 r1, .int .u64 r2, .int .i64 r3]) ∧ Below w.heap.size w w' := by
  have hu39 := Tryd.underlying39
  have HB := Aside0.mk (Below.refl w.heap.size w)
  have H : ((tikref1_May.f a2_0 a2_1).bind fun t105 => (if t105 = true then (tikref1_Scale.j0 k a0 a1 (decide (a1 ≥ a2_1)) a2_0 a2_1) else (tikref1_Scale.j0 k a0 a1 true a2_0 a2_1))) = some (r1, r2, r3) := h
  clear h
  have HC4 := Aside0.mk H
  clear H
  go_enter Tryd.func114, Tryd.ntmps114
  go_upto_region 1 with (first | ((with_reducible refine gate_dst (N := 5) rfl ?_); refine box_event ?hg (N := 5) ?hd (cs := #[.int .u64 a2_0, .int .u64 a2_1]) (t := 39) ?hr ?_; (case hd => rfl); (case hg => rfl); (case hr => first | (go_simp; done) | (go_simp; rfl)); intro gb104 hg w5 hbox hb; have n0_ := Aside0.mk (below_step (by repeat (first | (with_reducible first | exact HB.out | apply below_alloc | apply pw_below_drewN | apply below_drew1) | exact HB.out)) hb); have n1_ := Aside0.mk (hbox); have n2_ := Aside0.mk ((by rw [hg]; exact (below_size (by repeat (first | (with_reducible first | exact HB.out | apply below_alloc | apply pw_below_drewN | apply below_drew1) | exact HB.out))) : w.heap.size ≤ gb104)); have n3_ := Aside0.mk ((by rw [hg]; exact (below_size (by repeat (first | (with_reducible first | exact HB.out | apply below_alloc | apply pw_below_drewN | apply below_drew1) | exact HB.out))) : w.heap.size ≤ gb104)); clear HB; have HB := n0_; have BK104 := n1_; have GW104 := n2_; have GE104 := n3_; clear n0_ n1_ n2_ n3_; clear hb hbox hg))
  repeat (go_quiet (first | ((with_reducible refine gate_dst (N := 5) rfl ?_); refine box_event ?hg (N := 5) ?hd (cs := #[.int .u64 a2_0, .int .u64 a2_1]) (t := 39) ?hr ?_; (case hd => rfl); (case hg => rfl); (case hr => first | (go_simp; done) | (go_simp; rfl)); intro gb104 hg w5 hbox hb; have n0_ := Aside0.mk (below_step (by repeat (first | (with_reducible first | exact HB.out | apply below_alloc | apply pw_below_drewN | apply below_drew1) | exact HB.out)) hb); have n1_ := Aside0.mk (hbox); have n2_ := Aside0.mk ((by rw [hg]; exact (below_size (by repeat (first | (with_reducible first | exact HB.out | apply below_alloc | apply pw_below_drewN | apply below_drew1) | exact HB.out))) : w.heap.size ≤ gb104)); have n3_ := Aside0.mk ((by rw [hg]; exact (below_size (by repeat (first | (with_reducible first | exact HB.out | apply below_alloc | apply pw_below_drewN | apply below_drew1) | exact HB.out))) : w.heap.size ≤ gb104)); clear HB; have HB := n0_; have BK104 := n1_; have GW104 := n2_; have GE104 := n3_; clear n0_ n1_ n2_ n3_; clear hb hbox hg)); go_upto_region 1 with (first | ((with_reducible refine gate_dst (N := 5) rfl ?_); refine box_event ?hg (N := 5) ?hd (cs := #[.int .u64 a2_0, .int .u64 a2_1]) (t := 39) ?hr ?_; (case hd => rfl); (case hg => rfl); (case hr => first | (go_simp; done) | (go_simp; rfl)); intro gb104 hg w5 hbox hb; have n0_ := Aside0.mk (below_step (by repeat (first | (with_reducible first | exact HB.out | apply below_alloc | apply pw_below_drewN | apply below_drew1) | exact HB.out)) hb); have n1_ := Aside0.mk (hbox); have n2_ := Aside0.mk ((by rw [hg]; exact (below_size (by repeat (first | (with_reducible first | exact HB.out | apply below_alloc | apply pw_below_drewN | apply below_drew1) | exact HB.out))) : w.heap.size ≤ gb104)); have n3_ := Aside0.mk ((by rw [hg]; exact (below_size (by repeat (first | (with_reducible first | exact HB.out | apply below_alloc | apply pw_below_drewN | apply below_drew1) | exact HB.out))) : w.heap.size ≤ gb104)); clear HB; have HB := n0_; have BK104 := n1_; have GW104 := n2_; have GE104 := n3_; clear n0_ n1_ n2_ n3_; clear hb hbox hg)))
  (try simp only [Act.put, List.setIfInBounds_toArray, List.set_cons_zero, List.set_cons_succ])
  go_cut [22] (fun v22 wc => ∃ (kq : Nat) (x22_3 : Bool), v22 = .bool x22_3 ∧ Aside0 (tikref1_Scale.j0 kq a0 a1 x22_3 a2_0 a2_1 = some (r1, r2, r3)) ∧ Aside0 (kq ≤ k) ∧ Aside0 (wc.heap[gb104]? = some (.cells #[.int .u64 a2_0, .int .u64 a2_1] 39 (0, 0))) ∧ Aside0 (Below w.heap.size w wc))
  case first =>
    have H := HC4.out
    clear HC4
    replace H := Option.bind_eq_some_iff.mp H
    obtain ⟨t105, A60, H⟩ := H
    replace H : (if t105 = true then (tikref1_Scale.j0 k a0 a1 (decide (a1 ≥ a2_1)) a2_0 a2_1) else (tikref1_Scale.j0 k a0 a1 true a2_0 a2_1)) = some (r1, r2, r3) := H
    have A6 := Aside0.mk A60
    clear A60
    by_cases c7 : t105 = true
    · subst c7
      have H1 : (tikref1_Scale.j0 k a0 a1 (decide (a1 ≥ a2_1)) a2_0 a2_1) = some (r1, r2, r3) := by rw [if_pos rfl] at H; exact H
      clear H
      have H := H1
      clear H1
      have H' := Aside0.mk H
      clear H
      have hcz8_0 : w5.cell? ⟨gb104, 0, none⟩ = some (.int .u64 a2_0) := (blk_cell BK104.out 0).trans rfl
      have hcz8_1 : w5.cell? ⟨gb104, 1, none⟩ = some (.int .u64 a2_1) := (blk_cell BK104.out 1).trans rfl
      have hfz8_0 := blk_frozen BK104.out 0
      have hfz8_1 := blk_frozen BK104.out 1
      go_wp2_with (first | (go_at_call 109; (with_reducible refine (tikref1_May.calls a2_0 a2_1 true _ A6.out).mono ?_); rintro e w9 ⟨rfl, hb⟩; have n0_ := Aside0.mk (blk_below (g := gb104) (o := .cells #[.int .u64 a2_0, .int .u64 a2_1] 39 (0, 0)) (by (with_reducible repeat (first | refine blk_drewN ?_ _ | refine blk_drew ?_ | refine blk_alloc ?_ _)); exact BK104.out) hb); have n1_ := Aside0.mk (below_step (by repeat (first | (with_reducible first | exact HB.out | apply below_alloc | apply pw_below_drewN | apply below_drew1 | refine below_set ?_ GE104.out) | exact HB.out)) hb); clear BK104; clear HB; have BK104 := n0_; have HB := n1_; clear n0_ n1_; (try clear hb); (try clear hb2); (try clear hk); (try clear hi); have hcz10_0 : w9.cell? ⟨gb104, 0, none⟩ = some (.int .u64 a2_0) := (blk_cell BK104.out 0).trans rfl; have hcz10_1 : w9.cell? ⟨gb104, 1, none⟩ = some (.int .u64 a2_1) := (blk_cell BK104.out 1).trans rfl; have hfz10_0 := blk_frozen BK104.out 0; have hfz10_1 := blk_frozen BK104.out 1))
      repeat (go_quiet (first | (go_at_call 109; (with_reducible refine (tikref1_May.calls a2_0 a2_1 true _ A6.out).mono ?_); rintro e w9 ⟨rfl, hb⟩; have n0_ := Aside0.mk (blk_below (g := gb104) (o := .cells #[.int .u64 a2_0, .int .u64 a2_1] 39 (0, 0)) (by (with_reducible repeat (first | refine blk_drewN ?_ _ | refine blk_drew ?_ | refine blk_alloc ?_ _)); exact BK104.out) hb); have n1_ := Aside0.mk (below_step (by repeat (first | (with_reducible first | exact HB.out | apply below_alloc | apply pw_below_drewN | apply below_drew1 | refine below_set ?_ GE104.out) | exact HB.out)) hb); clear BK104; clear HB; have BK104 := n0_; have HB := n1_; clear n0_ n1_; (try clear hb); (try clear hb2); (try clear hk); (try clear hi); have hcz10_0 : w9.cell? ⟨gb104, 0, none⟩ = some (.int .u64 a2_0) := (blk_cell BK104.out 0).trans rfl; have hcz10_1 : w9.cell? ⟨gb104, 1, none⟩ = some (.int .u64 a2_1) := (blk_cell BK104.out 1).trans rfl; have hfz10_0 := blk_frozen BK104.out 0; have hfz10_1 := blk_frozen BK104.out 1)); try go_wp2_with (first | (go_at_call 109; (with_reducible refine (tikref1_May.calls a2_0 a2_1 true _ A6.out).mono ?_); rintro e w9 ⟨rfl, hb⟩; have n0_ := Aside0.mk (blk_below (g := gb104) (o := .cells #[.int .u64 a2_0, .int .u64 a2_1] 39 (0, 0)) (by (with_reducible repeat (first | refine blk_drewN ?_ _ | refine blk_drew ?_ | refine blk_alloc ?_ _)); exact BK104.out) hb); have n1_ := Aside0.mk (below_step (by repeat (first | (with_reducible first | exact HB.out | apply below_alloc | apply pw_below_drewN | apply below_drew1 | refine below_set ?_ GE104.out) | exact HB.out)) hb); clear BK104; clear HB; have BK104 := n0_; have HB := n1_; clear n0_ n1_; (try clear hb); (try clear hb2); (try clear hk); (try clear hi); have hcz10_0 : w9.cell? ⟨gb104, 0, none⟩ = some (.int .u64 a2_0) := (blk_cell BK104.out 0).trans rfl; have hcz10_1 : w9.cell? ⟨gb104, 1, none⟩ = some (.int .u64 a2_1) := (blk_cell BK104.out 1).trans rfl; have hfz10_0 := blk_frozen BK104.out 0; have hfz10_1 := blk_frozen BK104.out 1)))
      go_meet
      case rel => exact ⟨_, (decide (a1 ≥ a2_1)), (by first | rfl | (simp; done) | (simp [*]; done)), H', ⟨by first | omega | exact Nat.le_refl _⟩, ⟨by (with_reducible repeat (first | refine blk_drewN ?_ _ | refine blk_drew ?_ | refine blk_alloc ?_ _)); exact BK104.out⟩, ⟨by repeat (first | (with_reducible first | exact HB.out | apply below_alloc | apply pw_below_drewN | apply below_drew1 | refine below_set ?_ GE104.out) | exact HB.out)⟩⟩
    · replace c7 := Bool.eq_false_iff.mpr c7
      subst c7
      have H1 : (tikref1_Scale.j0 k a0 a1 true a2_0 a2_1) = some (r1, r2, r3) := by rw [if_neg (show ¬ (false = true) by decide)] at H; exact H
      clear H
      have H := H1
      clear H1
      have H' := Aside0.mk H
      clear H
      have hcz11_0 : w5.cell? ⟨gb104, 0, none⟩ = some (.int .u64 a2_0) := (blk_cell BK104.out 0).trans rfl
      have hcz11_1 : w5.cell? ⟨gb104, 1, none⟩ = some (.int .u64 a2_1) := (blk_cell BK104.out 1).trans rfl
      have hfz11_0 := blk_frozen BK104.out 0
      have hfz11_1 := blk_frozen BK104.out 1
      go_wp2_with (first | (go_at_call 109; (with_reducible refine (tikref1_May.calls a2_0 a2_1 false _ A6.out).mono ?_); rintro e w12 ⟨rfl, hb⟩; have n0_ := Aside0.mk (blk_below (g := gb104) (o := .cells #[.int .u64 a2_0, .int .u64 a2_1] 39 (0, 0)) (by (with_reducible repeat (first | refine blk_drewN ?_ _ | refine blk_drew ?_ | refine blk_alloc ?_ _)); exact BK104.out) hb); have n1_ := Aside0.mk (below_step (by repeat (first | (with_reducible first | exact HB.out | apply below_alloc | apply pw_below_drewN | apply below_drew1 | refine below_set ?_ GE104.out) | exact HB.out)) hb); clear BK104; clear HB; have BK104 := n0_; have HB := n1_; clear n0_ n1_; (try clear hb); (try clear hb2); (try clear hk); (try clear hi)))
      repeat (go_quiet (first | (go_at_call 109; (with_reducible refine (tikref1_May.calls a2_0 a2_1 false _ A6.out).mono ?_); rintro e w12 ⟨rfl, hb⟩; have n0_ := Aside0.mk (blk_below (g := gb104) (o := .cells #[.int .u64 a2_0, .int .u64 a2_1] 39 (0, 0)) (by (with_reducible repeat (first | refine blk_drewN ?_ _ | refine blk_drew ?_ | refine blk_alloc ?_ _)); exact BK104.out) hb); have n1_ := Aside0.mk (below_step (by repeat (first | (with_reducible first | exact HB.out | apply below_alloc | apply pw_below_drewN | apply below_drew1 | refine below_set ?_ GE104.out) | exact HB.out)) hb); clear BK104; clear HB; have BK104 := n0_; have HB := n1_; clear n0_ n1_; (try clear hb); (try clear hb2); (try clear hk); (try clear hi))); try go_wp2_with (first | (go_at_call 109; (with_reducible refine (tikref1_May.calls a2_0 a2_1 false _ A6.out).mono ?_); rintro e w12 ⟨rfl, hb⟩; have n0_ := Aside0.mk (blk_below (g := gb104) (o := .cells #[.int .u64 a2_0, .int .u64 a2_1] 39 (0, 0)) (by (with_reducible repeat (first | refine blk_drewN ?_ _ | refine blk_drew ?_ | refine blk_alloc ?_ _)); exact BK104.out) hb); have n1_ := Aside0.mk (below_step (by repeat (first | (with_reducible first | exact HB.out | apply below_alloc | apply pw_below_drewN | apply below_drew1 | refine below_set ?_ GE104.out) | exact HB.out)) hb); clear BK104; clear HB; have BK104 := n0_; have HB := n1_; clear n0_ n1_; (try clear hb); (try clear hb2); (try clear hk); (try clear hi))))
      go_meet
      case rel => exact ⟨_, (true), (by first | rfl | (simp; done) | (simp [*]; done)), H', ⟨by first | omega | exact Nat.le_refl _⟩, ⟨by (with_reducible repeat (first | refine blk_drewN ?_ _ | refine blk_drew ?_ | refine blk_alloc ?_ _)); exact BK104.out⟩, ⟨by repeat (first | (with_reducible first | exact HB.out | apply below_alloc | apply pw_below_drewN | apply below_drew1 | refine below_set ?_ GE104.out) | exact HB.out)⟩⟩
  case rest =>
    clear HC4
    try clear c1
    try clear p2
    try clear c7
    try clear c11
    try clear hcz10_0
    try clear hcz10_1
    try clear hcz11_0
    try clear hcz11_1
    try clear hcz8_0
    try clear hcz8_1
    try clear hfz10_0
    try clear hfz10_1
    try clear hfz11_0
    try clear hfz11_1
    try clear hfz8_0
    try clear hfz8_1
    obtain ⟨kq, x22_3, rfl, HA, HJ3, BK104, HB⟩ := hcut
    cases kq with
    | zero => exact absurd HA.out (by simp [tikref1_Scale.j0])
    | succ kj3 =>
      have H := HA.out
      clear HA
      simp only [tikref1_Scale.j0] at H
      by_cases c13 : x22_3 = true
      · subst c13
        have H1 : (some (0, 0, 1)) = some (r1, r2, r3) := by rw [if_pos rfl] at H; exact H
        clear H
        have H := H1
        clear H1
        simp only [Option.some.injEq, Prod.mk.injEq] at H
        obtain ⟨rfl, rfl, rfl⟩ := H
        go_wp2
        repeat (go_quiet (fail); try go_wp2)
        go_ret3
        exact ⟨by first | rfl | (simp [errW_none, errW_some] <;> rfl) | (simp [*, errW_none, errW_some] <;> rfl), by repeat (first | (with_reducible first | exact HB.out | apply below_alloc | apply pw_below_drewN | apply below_drew1 | refine below_set ?_ GE104.out) | exact HB.out)⟩
      · replace c13 := Bool.eq_false_iff.mpr c13
        subst c13
        have H1 : (tikref1_Scale.l0 kj3 (IntKind.u64.wrap ((IntKind.u64.wrap ((a0 / 4294967296) * a2_0)) + ((IntKind.u64.wrap ((IntKind.u64.wrap ((Go.bits .and .u64 a0 4294967295) * a2_0)) + a1)) / 4294967296))) (Go.bits .and .u64 (IntKind.u64.wrap ((IntKind.u64.wrap ((Go.bits .and .u64 a0 4294967295) * a2_0)) + a1)) 4294967295) 0 a2_0 a2_1) = some (r1, r2, r3) := by rw [if_neg (show ¬ (false = true) by decide)] at H; exact H
        clear H
        have H := H1
        clear H1
        have H' := Aside0.mk H
        clear H
        have hcz14_0 : wc.cell? ⟨gb104, 0, none⟩ = some (.int .u64 a2_0) := (blk_cell BK104.out 0).trans rfl
        have hcz14_1 : wc.cell? ⟨gb104, 1, none⟩ = some (.int .u64 a2_1) := (blk_cell BK104.out 1).trans rfl
        have hfz14_0 := blk_frozen BK104.out 0
        have hfz14_1 := blk_frozen BK104.out 1
        go_wp2
        repeat (go_quiet (fail); try go_wp2)
        go_loopg [12] kj3 (fun kq v12 w' => ∃ (x12_2 : Int), v12 = .int .i64 x12_2 ∧ Aside0 (tikref1_Scale.l0 kq (IntKind.u64.wrap ((IntKind.u64.wrap ((a0 / 4294967296) * a2_0)) + ((IntKind.u64.wrap ((IntKind.u64.wrap ((Go.bits .and .u64 a0 4294967295) * a2_0)) + a1)) / 4294967296))) (Go.bits .and .u64 (IntKind.u64.wrap ((IntKind.u64.wrap ((Go.bits .and .u64 a0 4294967295) * a2_0)) + a1)) 4294967295) x12_2 a2_0 a2_1 = some (r1, r2, r3)) ∧ Aside0 (kq ≤ kj3) ∧ Aside0 (w'.heap[gb104]? = some (.cells #[.int .u64 a2_0, .int .u64 a2_1] 39 (0, 0))) ∧ Aside0 (Below w.heap.size w w'))
        case atStart => exact ⟨(0), (by first | rfl | (simp; done) | (simp [*]; done)), H', ⟨Nat.le_refl _⟩, ⟨by (with_reducible repeat (first | refine blk_drewN ?_ _ | refine blk_drew ?_ | refine blk_alloc ?_ _)); exact BK104.out⟩, ⟨by repeat (first | (with_reducible first | exact HB.out | apply below_alloc | apply pw_below_drewN | apply below_drew1 | refine below_set ?_ GE104.out) | exact HB.out)⟩⟩
        case round =>
          clear H'
          try clear c1
          try clear p2
          try clear c7
          try clear c11
          try clear c13
          try clear hcz10_0
          try clear hcz10_1
          try clear hcz11_0
          try clear hcz11_1
          try clear hcz14_0
          try clear hcz14_1
          try clear hcz8_0
          try clear hcz8_1
          try clear hfz10_0
          try clear hfz10_1
          try clear hfz11_0
          try clear hfz11_1
          try clear hfz14_0
          try clear hfz14_1
          try clear hfz8_0
          try clear hfz8_1
          try clear p2
          obtain ⟨x12_2, rfl, HA, HK2, BK104, HB⟩ := hrel
          cases gk with
          | zero => exact absurd HA.out (by simp [tikref1_Scale.l0])
          | succ k2 =>
            have H := HA.out
            clear HA
            simp only [tikref1_Scale.l0] at H
            obtain ⟨ji15, hji15⟩ : ∃ j_ : Int, (IntKind.u64.wrap (x12_2)) = j_ := ⟨_, rfl⟩
            replace H : (if 0 ≤ (ji15) then (if (shl .u64 1 (ji15)) < a2_1 then (tikref1_Scale.l0 k2 (IntKind.u64.wrap ((IntKind.u64.wrap ((a0 / 4294967296) * a2_0)) + ((IntKind.u64.wrap ((IntKind.u64.wrap ((Go.bits .and .u64 a0 4294967295) * a2_0)) + a1)) / 4294967296))) (Go.bits .and .u64 (IntKind.u64.wrap ((IntKind.u64.wrap ((Go.bits .and .u64 a0 4294967295) * a2_0)) + a1)) 4294967295) (wrap64 (x12_2 + 1)) a2_0 a2_1) else (if 0 ≤ (IntKind.u64.wrap (wrap64 (31 + x12_2))) then (if (IntKind.u64.wrap ((IntKind.u64.wrap ((a0 / 4294967296) * a2_0)) + ((IntKind.u64.wrap ((IntKind.u64.wrap ((Go.bits .and .u64 a0 4294967295) * a2_0)) + a1)) / 4294967296))) ≥ (shl .u64 1 (IntKind.u64.wrap (wrap64 (31 + x12_2)))) then (some (0, 0, 1)) else (if 0 ≤ (IntKind.u64.wrap (wrap64 (32 - x12_2))) then (if (IntKind.u64.wrap ((shl .u64 (IntKind.u64.wrap ((IntKind.u64.wrap ((a0 / 4294967296) * a2_0)) + ((IntKind.u64.wrap ((IntKind.u64.wrap ((Go.bits .and .u64 a0 4294967295) * a2_0)) + a1)) / 4294967296))) (IntKind.u64.wrap (wrap64 (32 - x12_2)))) + (shr .u64 (Go.bits .and .u64 (IntKind.u64.wrap ((IntKind.u64.wrap ((Go.bits .and .u64 a0 4294967295) * a2_0)) + a1)) 4294967295) (ji15)))) > 4611686018427387904 then (some (0, 0, 1)) else (some (IntKind.u64.wrap ((shl .u64 (IntKind.u64.wrap ((IntKind.u64.wrap ((a0 / 4294967296) * a2_0)) + ((IntKind.u64.wrap ((IntKind.u64.wrap ((Go.bits .and .u64 a0 4294967295) * a2_0)) + a1)) / 4294967296))) (IntKind.u64.wrap (wrap64 (32 - x12_2)))) + (shr .u64 (Go.bits .and .u64 (IntKind.u64.wrap ((IntKind.u64.wrap ((Go.bits .and .u64 a0 4294967295) * a2_0)) + a1)) 4294967295) (ji15))), Go.bits .and .u64 (Go.bits .and .u64 (IntKind.u64.wrap ((IntKind.u64.wrap ((Go.bits .and .u64 a0 4294967295) * a2_0)) + a1)) 4294967295) (IntKind.u64.wrap (a2_1 - 1)), 0))) else (none))) else (none))) else (none)) = some (r1, r2, r3) := by first | (rw [hji15] at H; exact H) | (simp only [hji15] at H ⊢; exact H)
            by_cases c16 : 0 ≤ (ji15)
            · rw [if_pos c16] at H
              have c16b0 := eq_true c16
              have c16b1 : decide (0 ≤ (ji15)) = true := decide_eq_true c16
              clear c16
              obtain ⟨ji17, hji17⟩ : ∃ j_ : Int, (shl .u64 1 (ji15)) = j_ := ⟨_, rfl⟩
              replace H : (if (ji17) < a2_1 then (tikref1_Scale.l0 k2 (IntKind.u64.wrap ((IntKind.u64.wrap ((a0 / 4294967296) * a2_0)) + ((IntKind.u64.wrap ((IntKind.u64.wrap ((Go.bits .and .u64 a0 4294967295) * a2_0)) + a1)) / 4294967296))) (Go.bits .and .u64 (IntKind.u64.wrap ((IntKind.u64.wrap ((Go.bits .and .u64 a0 4294967295) * a2_0)) + a1)) 4294967295) (wrap64 (x12_2 + 1)) a2_0 a2_1) else (if 0 ≤ (IntKind.u64.wrap (wrap64 (31 + x12_2))) then (if (IntKind.u64.wrap ((IntKind.u64.wrap ((a0 / 4294967296) * a2_0)) + ((IntKind.u64.wrap ((IntKind.u64.wrap ((Go.bits .and .u64 a0 4294967295) * a2_0)) + a1)) / 4294967296))) ≥ (shl .u64 1 (IntKind.u64.wrap (wrap64 (31 + x12_2)))) then (some (0, 0, 1)) else (if 0 ≤ (IntKind.u64.wrap (wrap64 (32 - x12_2))) then (if (IntKind.u64.wrap ((shl .u64 (IntKind.u64.wrap ((IntKind.u64.wrap ((a0 / 4294967296) * a2_0)) + ((IntKind.u64.wrap ((IntKind.u64.wrap ((Go.bits .and .u64 a0 4294967295) * a2_0)) + a1)) / 4294967296))) (IntKind.u64.wrap (wrap64 (32 - x12_2)))) + (shr .u64 (Go.bits .and .u64 (IntKind.u64.wrap ((IntKind.u64.wrap ((Go.bits .and .u64 a0 4294967295) * a2_0)) + a1)) 4294967295) (ji15)))) > 4611686018427387904 then (some (0, 0, 1)) else (some (IntKind.u64.wrap ((shl .u64 (IntKind.u64.wrap ((IntKind.u64.wrap ((a0 / 4294967296) * a2_0)) + ((IntKind.u64.wrap ((IntKind.u64.wrap ((Go.bits .and .u64 a0 4294967295) * a2_0)) + a1)) / 4294967296))) (IntKind.u64.wrap (wrap64 (32 - x12_2)))) + (shr .u64 (Go.bits .and .u64 (IntKind.u64.wrap ((IntKind.u64.wrap ((Go.bits .and .u64 a0 4294967295) * a2_0)) + a1)) 4294967295) (ji15))), Go.bits .and .u64 (Go.bits .and .u64 (IntKind.u64.wrap ((IntKind.u64.wrap ((Go.bits .and .u64 a0 4294967295) * a2_0)) + a1)) 4294967295) (IntKind.u64.wrap (a2_1 - 1)), 0))) else (none))) else (none))) = some (r1, r2, r3) := by first | (rw [hji17] at H; exact H) | (simp only [hji17] at H ⊢; exact H)
              have hji17_ : (IntKind.u64.wrap (1 * 2 ^ min (ji15).toNat 64)) = ji17 := hji17
              have hji17z : (ji15) ≤ 64 → (IntKind.u64.wrap (1 * 2 ^ (ji15).toNat)) = ji17 := shl_small hji17
              have hji17u : (IntKind.u64.wrap (2 ^ min (ji15).toNat 64)) = ji17 := by have h_ := hji17_; rw [Int.one_mul] at h_; exact h_
              have hji17v : (ji15) ≤ 64 → (IntKind.u64.wrap (2 ^ (ji15).toNat)) = ji17 := fun hle_ => by have h_ := hji17z hle_; rw [Int.one_mul] at h_; exact h_
              by_cases c18 : (ji17) < a2_1
              · rw [if_pos c18] at H
                have c18b0 : decide ((ji17) < a2_1) = true := decide_eq_true c18
                clear c18
                have H' := Aside0.mk H
                clear H
                have hcz19_0 : wr.cell? ⟨gb104, 0, none⟩ = some (.int .u64 a2_0) := (blk_cell BK104.out 0).trans rfl
                have hcz19_1 : wr.cell? ⟨gb104, 1, none⟩ = some (.int .u64 a2_1) := (blk_cell BK104.out 1).trans rfl
                have hfz19_0 := blk_frozen BK104.out 0
                have hfz19_1 := blk_frozen BK104.out 1
                go_wp2
                repeat (go_quiet (fail); try go_wp2)
                go_roundg k2
                case measure => have := HJ3.out; have := HK2.out; omega
                case rel => exact ⟨(wrap64 (x12_2 + 1)), (by first | rfl | (simp; done) | (simp [*]; done)), H', ⟨by have := HJ3.out; have := HK2.out; omega⟩, ⟨by (with_reducible repeat (first | refine blk_drewN ?_ _ | refine blk_drew ?_ | refine blk_alloc ?_ _)); exact BK104.out⟩, ⟨by repeat (first | (with_reducible first | exact HB.out | apply below_alloc | apply pw_below_drewN | apply below_drew1 | refine below_set ?_ GE104.out) | exact HB.out)⟩⟩
              · rw [if_neg c18] at H
                have c18b0 : decide ((ji17) < a2_1) = false := decide_eq_false c18
                clear c18
                obtain ⟨ji20, hji20⟩ : ∃ j_ : Int, (IntKind.u64.wrap (wrap64 (31 + x12_2))) = j_ := ⟨_, rfl⟩
                replace H : (if 0 ≤ (ji20) then (if (IntKind.u64.wrap ((IntKind.u64.wrap ((a0 / 4294967296) * a2_0)) + ((IntKind.u64.wrap ((IntKind.u64.wrap ((Go.bits .and .u64 a0 4294967295) * a2_0)) + a1)) / 4294967296))) ≥ (shl .u64 1 (ji20)) then (some (0, 0, 1)) else (if 0 ≤ (IntKind.u64.wrap (wrap64 (32 - x12_2))) then (if (IntKind.u64.wrap ((shl .u64 (IntKind.u64.wrap ((IntKind.u64.wrap ((a0 / 4294967296) * a2_0)) + ((IntKind.u64.wrap ((IntKind.u64.wrap ((Go.bits .and .u64 a0 4294967295) * a2_0)) + a1)) / 4294967296))) (IntKind.u64.wrap (wrap64 (32 - x12_2)))) + (shr .u64 (Go.bits .and .u64 (IntKind.u64.wrap ((IntKind.u64.wrap ((Go.bits .and .u64 a0 4294967295) * a2_0)) + a1)) 4294967295) (ji15)))) > 4611686018427387904 then (some (0, 0, 1)) else (some (IntKind.u64.wrap ((shl .u64 (IntKind.u64.wrap ((IntKind.u64.wrap ((a0 / 4294967296) * a2_0)) + ((IntKind.u64.wrap ((IntKind.u64.wrap ((Go.bits .and .u64 a0 4294967295) * a2_0)) + a1)) / 4294967296))) (IntKind.u64.wrap (wrap64 (32 - x12_2)))) + (shr .u64 (Go.bits .and .u64 (IntKind.u64.wrap ((IntKind.u64.wrap ((Go.bits .and .u64 a0 4294967295) * a2_0)) + a1)) 4294967295) (ji15))), Go.bits .and .u64 (Go.bits .and .u64 (IntKind.u64.wrap ((IntKind.u64.wrap ((Go.bits .and .u64 a0 4294967295) * a2_0)) + a1)) 4294967295) (IntKind.u64.wrap (a2_1 - 1)), 0))) else (none))) else (none)) = some (r1, r2, r3) := by first | (rw [hji20] at H; exact H) | (simp only [hji20] at H ⊢; exact H)
                by_cases c21 : 0 ≤ (ji20)
                · rw [if_pos c21] at H
                  have c21b0 := eq_true c21
                  have c21b1 : decide (0 ≤ (ji20)) = true := decide_eq_true c21
                  clear c21
                  obtain ⟨ji22, hji22⟩ : ∃ j_ : Int, (shl .u64 1 (ji20)) = j_ := ⟨_, rfl⟩
                  replace H : (if (IntKind.u64.wrap ((IntKind.u64.wrap ((a0 / 4294967296) * a2_0)) + ((IntKind.u64.wrap ((IntKind.u64.wrap ((Go.bits .and .u64 a0 4294967295) * a2_0)) + a1)) / 4294967296))) ≥ (ji22) then (some (0, 0, 1)) else (if 0 ≤ (IntKind.u64.wrap (wrap64 (32 - x12_2))) then (if (IntKind.u64.wrap ((shl .u64 (IntKind.u64.wrap ((IntKind.u64.wrap ((a0 / 4294967296) * a2_0)) + ((IntKind.u64.wrap ((IntKind.u64.wrap ((Go.bits .and .u64 a0 4294967295) * a2_0)) + a1)) / 4294967296))) (IntKind.u64.wrap (wrap64 (32 - x12_2)))) + (shr .u64 (Go.bits .and .u64 (IntKind.u64.wrap ((IntKind.u64.wrap ((Go.bits .and .u64 a0 4294967295) * a2_0)) + a1)) 4294967295) (ji15)))) > 4611686018427387904 then (some (0, 0, 1)) else (some (IntKind.u64.wrap ((shl .u64 (IntKind.u64.wrap ((IntKind.u64.wrap ((a0 / 4294967296) * a2_0)) + ((IntKind.u64.wrap ((IntKind.u64.wrap ((Go.bits .and .u64 a0 4294967295) * a2_0)) + a1)) / 4294967296))) (IntKind.u64.wrap (wrap64 (32 - x12_2)))) + (shr .u64 (Go.bits .and .u64 (IntKind.u64.wrap ((IntKind.u64.wrap ((Go.bits .and .u64 a0 4294967295) * a2_0)) + a1)) 4294967295) (ji15))), Go.bits .and .u64 (Go.bits .and .u64 (IntKind.u64.wrap ((IntKind.u64.wrap ((Go.bits .and .u64 a0 4294967295) * a2_0)) + a1)) 4294967295) (IntKind.u64.wrap (a2_1 - 1)), 0))) else (none))) = some (r1, r2, r3) := by first | (rw [hji22] at H; exact H) | (simp only [hji22] at H ⊢; exact H)
                  have hji22_ : (IntKind.u64.wrap (1 * 2 ^ min (ji20).toNat 64)) = ji22 := hji22
                  have hji22z : (ji20) ≤ 64 → (IntKind.u64.wrap (1 * 2 ^ (ji20).toNat)) = ji22 := shl_small hji22
                  have hji22u : (IntKind.u64.wrap (2 ^ min (ji20).toNat 64)) = ji22 := by have h_ := hji22_; rw [Int.one_mul] at h_; exact h_
                  have hji22v : (ji20) ≤ 64 → (IntKind.u64.wrap (2 ^ (ji20).toNat)) = ji22 := fun hle_ => by have h_ := hji22z hle_; rw [Int.one_mul] at h_; exact h_
                  by_cases c23 : (IntKind.u64.wrap ((IntKind.u64.wrap ((a0 / 4294967296) * a2_0)) + ((IntKind.u64.wrap ((IntKind.u64.wrap ((Go.bits .and .u64 a0 4294967295) * a2_0)) + a1)) / 4294967296))) ≥ (ji22)
                  · rw [if_pos c23] at H
                    have c23b0 : decide ((ji22) ≤ (IntKind.u64.wrap ((IntKind.u64.wrap ((a0 / 4294967296) * a2_0)) + ((IntKind.u64.wrap ((IntKind.u64.wrap ((Go.bits .and .u64 a0 4294967295) * a2_0)) + a1)) / 4294967296)))) = true := decide_eq_true c23
                    clear c23
                    simp only [Option.some.injEq, Prod.mk.injEq] at H
                    obtain ⟨rfl, rfl, rfl⟩ := H
                    have hcz24_0 : wr.cell? ⟨gb104, 0, none⟩ = some (.int .u64 a2_0) := (blk_cell BK104.out 0).trans rfl
                    have hcz24_1 : wr.cell? ⟨gb104, 1, none⟩ = some (.int .u64 a2_1) := (blk_cell BK104.out 1).trans rfl
                    have hfz24_0 := blk_frozen BK104.out 0
                    have hfz24_1 := blk_frozen BK104.out 1
                    go_wp2
                    repeat (go_quiet (fail); try go_wp2)
                    go_ret3
                    exact ⟨by first | rfl | (simp [errW_none, errW_some] <;> rfl) | (simp only [← hji15, ← hji17, ← hji20, ← hji22]; first | rfl | (simp [errW_none, errW_some] <;> rfl)) | (simp [*, errW_none, errW_some] <;> rfl), by repeat (first | (with_reducible first | exact HB.out | apply below_alloc | apply pw_below_drewN | apply below_drew1 | refine below_set ?_ GE104.out) | exact HB.out)⟩
                  · rw [if_neg c23] at H
                    have c23b0 : decide ((ji22) ≤ (IntKind.u64.wrap ((IntKind.u64.wrap ((a0 / 4294967296) * a2_0)) + ((IntKind.u64.wrap ((IntKind.u64.wrap ((Go.bits .and .u64 a0 4294967295) * a2_0)) + a1)) / 4294967296)))) = false := decide_eq_false c23
                    clear c23
                    obtain ⟨ji25, hji25⟩ : ∃ j_ : Int, (IntKind.u64.wrap (wrap64 (32 - x12_2))) = j_ := ⟨_, rfl⟩
                    replace H : (if 0 ≤ (ji25) then (if (IntKind.u64.wrap ((shl .u64 (IntKind.u64.wrap ((IntKind.u64.wrap ((a0 / 4294967296) * a2_0)) + ((IntKind.u64.wrap ((IntKind.u64.wrap ((Go.bits .and .u64 a0 4294967295) * a2_0)) + a1)) / 4294967296))) (ji25)) + (shr .u64 (Go.bits .and .u64 (IntKind.u64.wrap ((IntKind.u64.wrap ((Go.bits .and .u64 a0 4294967295) * a2_0)) + a1)) 4294967295) (ji15)))) > 4611686018427387904 then (some (0, 0, 1)) else (some (IntKind.u64.wrap ((shl .u64 (IntKind.u64.wrap ((IntKind.u64.wrap ((a0 / 4294967296) * a2_0)) + ((IntKind.u64.wrap ((IntKind.u64.wrap ((Go.bits .and .u64 a0 4294967295) * a2_0)) + a1)) / 4294967296))) (ji25)) + (shr .u64 (Go.bits .and .u64 (IntKind.u64.wrap ((IntKind.u64.wrap ((Go.bits .and .u64 a0 4294967295) * a2_0)) + a1)) 4294967295) (ji15))), Go.bits .and .u64 (Go.bits .and .u64 (IntKind.u64.wrap ((IntKind.u64.wrap ((Go.bits .and .u64 a0 4294967295) * a2_0)) + a1)) 4294967295) (IntKind.u64.wrap (a2_1 - 1)), 0))) else (none)) = some (r1, r2, r3) := by first | (rw [hji25] at H; exact H) | (simp only [hji25] at H ⊢; exact H)
                    by_cases c26 : 0 ≤ (ji25)
                    · rw [if_pos c26] at H
                      have c26b0 := eq_true c26
                      have c26b1 : decide (0 ≤ (ji25)) = true := decide_eq_true c26
                      clear c26
                      obtain ⟨ji27, hji27⟩ : ∃ j_ : Int, (shl .u64 (IntKind.u64.wrap ((IntKind.u64.wrap ((a0 / 4294967296) * a2_0)) + ((IntKind.u64.wrap ((IntKind.u64.wrap ((Go.bits .and .u64 a0 4294967295) * a2_0)) + a1)) / 4294967296))) (ji25)) = j_ := ⟨_, rfl⟩
                      replace H : (if (IntKind.u64.wrap ((ji27) + (shr .u64 (Go.bits .and .u64 (IntKind.u64.wrap ((IntKind.u64.wrap ((Go.bits .and .u64 a0 4294967295) * a2_0)) + a1)) 4294967295) (ji15)))) > 4611686018427387904 then (some (0, 0, 1)) else (some (IntKind.u64.wrap ((ji27) + (shr .u64 (Go.bits .and .u64 (IntKind.u64.wrap ((IntKind.u64.wrap ((Go.bits .and .u64 a0 4294967295) * a2_0)) + a1)) 4294967295) (ji15))), Go.bits .and .u64 (Go.bits .and .u64 (IntKind.u64.wrap ((IntKind.u64.wrap ((Go.bits .and .u64 a0 4294967295) * a2_0)) + a1)) 4294967295) (IntKind.u64.wrap (a2_1 - 1)), 0))) = some (r1, r2, r3) := by first | (rw [hji27] at H; exact H) | (simp only [hji27] at H ⊢; exact H)
                      have hji27_ : (IntKind.u64.wrap ((IntKind.u64.wrap ((IntKind.u64.wrap ((a0 / 4294967296) * a2_0)) + ((IntKind.u64.wrap ((IntKind.u64.wrap ((Go.bits .and .u64 a0 4294967295) * a2_0)) + a1)) / 4294967296))) * 2 ^ min (ji25).toNat 64)) = ji27 := hji27
                      have hji27z : (ji25) ≤ 64 → (IntKind.u64.wrap ((IntKind.u64.wrap ((IntKind.u64.wrap ((a0 / 4294967296) * a2_0)) + ((IntKind.u64.wrap ((IntKind.u64.wrap ((Go.bits .and .u64 a0 4294967295) * a2_0)) + a1)) / 4294967296))) * 2 ^ (ji25).toNat)) = ji27 := shl_small hji27
                      have c28b0 := eq_true (of_decide_eq_true (by first | (with_reducible assumption) | assumption) : 0 ≤ (ji15))
                      obtain ⟨ji29, hji29⟩ : ∃ j_ : Int, (shr .u64 (Go.bits .and .u64 (IntKind.u64.wrap ((IntKind.u64.wrap ((Go.bits .and .u64 a0 4294967295) * a2_0)) + a1)) 4294967295) (ji15)) = j_ := ⟨_, rfl⟩
                      replace H : (if (IntKind.u64.wrap ((ji27) + (ji29))) > 4611686018427387904 then (some (0, 0, 1)) else (some (IntKind.u64.wrap ((ji27) + (ji29)), Go.bits .and .u64 (Go.bits .and .u64 (IntKind.u64.wrap ((IntKind.u64.wrap ((Go.bits .and .u64 a0 4294967295) * a2_0)) + a1)) 4294967295) (IntKind.u64.wrap (a2_1 - 1)), 0))) = some (r1, r2, r3) := by first | (rw [hji29] at H; exact H) | (simp only [hji29] at H ⊢; exact H)
                      have hji29_ : ((Go.bits .and .u64 (IntKind.u64.wrap ((IntKind.u64.wrap ((Go.bits .and .u64 a0 4294967295) * a2_0)) + a1)) 4294967295) / 2 ^ min (ji15).toNat 64) = ji29 := hji29
                      have hji29z : (ji15) ≤ 64 → ((Go.bits .and .u64 (IntKind.u64.wrap ((IntKind.u64.wrap ((Go.bits .and .u64 a0 4294967295) * a2_0)) + a1)) 4294967295) / 2 ^ (ji15).toNat) = ji29 := shr_small hji29
                      by_cases c30 : (IntKind.u64.wrap ((ji27) + (ji29))) > 4611686018427387904
                      · rw [if_pos c30] at H
                        have c30b0 : decide (4611686018427387904 < (IntKind.u64.wrap ((ji27) + (ji29)))) = true := decide_eq_true c30
                        clear c30
                        simp only [Option.some.injEq, Prod.mk.injEq] at H
                        obtain ⟨rfl, rfl, rfl⟩ := H
                        have hcz31_0 : wr.cell? ⟨gb104, 0, none⟩ = some (.int .u64 a2_0) := (blk_cell BK104.out 0).trans rfl
                        have hcz31_1 : wr.cell? ⟨gb104, 1, none⟩ = some (.int .u64 a2_1) := (blk_cell BK104.out 1).trans rfl
                        have hfz31_0 := blk_frozen BK104.out 0
                        have hfz31_1 := blk_frozen BK104.out 1
                        go_wp2
                        repeat (go_quiet (fail); try go_wp2)
                        go_ret3
                        exact ⟨by first | rfl | (simp [errW_none, errW_some] <;> rfl) | (simp only [← hji15, ← hji17, ← hji20, ← hji22, ← hji25, ← hji27, ← hji29]; first | rfl | (simp [errW_none, errW_some] <;> rfl)) | (simp [*, errW_none, errW_some] <;> rfl), by repeat (first | (with_reducible first | exact HB.out | apply below_alloc | apply pw_below_drewN | apply below_drew1 | refine below_set ?_ GE104.out) | exact HB.out)⟩
                      · rw [if_neg c30] at H
                        have c30b0 : decide (4611686018427387904 < (IntKind.u64.wrap ((ji27) + (ji29)))) = false := decide_eq_false c30
                        clear c30
                        simp only [Option.some.injEq, Prod.mk.injEq] at H
                        obtain ⟨rfl, rfl, rfl⟩ := H
                        have hcz32_0 : wr.cell? ⟨gb104, 0, none⟩ = some (.int .u64 a2_0) := (blk_cell BK104.out 0).trans rfl
                        have hcz32_1 : wr.cell? ⟨gb104, 1, none⟩ = some (.int .u64 a2_1) := (blk_cell BK104.out 1).trans rfl
                        have hfz32_0 := blk_frozen BK104.out 0
                        have hfz32_1 := blk_frozen BK104.out 1
                        go_wp2
                        repeat (go_quiet (fail); try go_wp2)
                        go_ret3
                        exact ⟨by first | rfl | (simp [errW_none, errW_some] <;> rfl) | (simp only [← hji15, ← hji17, ← hji20, ← hji22, ← hji25, ← hji27, ← hji29]; first | rfl | (simp [errW_none, errW_some] <;> rfl)) | (simp [*, errW_none, errW_some] <;> rfl), by repeat (first | (with_reducible first | exact HB.out | apply below_alloc | apply pw_below_drewN | apply below_drew1 | refine below_set ?_ GE104.out) | exact HB.out)⟩
                    · rw [if_neg c26] at H
                      exact absurd H (by simp)
                · rw [if_neg c21] at H
                  exact absurd H (by simp)
            · rw [if_neg c16] at H
              exact absurd H (by simp)
def tikref1_isNaN.f (a0 : Int) : Option (Bool) := some (decide ((IntKind.u64.wrap (a0 * 2)) > 18437736874454810624))
set_option maxHeartbeats 8000000 in
set_option maxRecDepth 100000 in
theorem tikref1_isNaN.calls (a0 : Int) (r : Bool) (w : World) (h : tikref1_isNaN.f a0 = some r) :
    Calls Tryd.prog 107 #[.int .u64 a0] w fun e w' => e = .returned (.bool r) ∧ Drawn0 w w' := by
  have H : (some (decide ((IntKind.u64.wrap (a0 * 2)) > 18437736874454810624))) = some r := h
  clear h
  obtain rfl := Option.some.inj H
  go_enter Tryd.func107, Tryd.ntmps107
  go_wp2
  go_ret
  exact ⟨by first | rfl | (simp; done) | (simp [*]; done), by repeat (first | exact Drawn0.refl _ | apply Drawn0.step)⟩
def tikref1_least.l0 : Nat → Int → Int → Option (Int × Int)
  | 0, _, _ => none
  | k + 1, x108000, x108001 => if x108001 > 1 then (if (Int.tmod x108000 2) = 0 then (tikref1_least.l0 k (IntKind.u64.wrap (Int.tdiv x108000 2)) (IntKind.u64.wrap (Int.tdiv x108001 2))) else (some (x108000, x108001))) else (some (x108000, x108001))
def tikref1_least.f (k : Nat) (a0 : Int) : Option (Int × Int) := tikref1_least.l0 k a0 1048576
set_option maxHeartbeats 8000000 in
set_option maxRecDepth 100000 in
theorem tikref1_least.calls (k : Nat) (a0 : Int) (r1 : Int) (r2 : Int) (w : World) (h : tikref1_least.f k a0 = some (r1, r2)) :
    Calls Tryd.prog 108 #[.int .u64 a0] w fun e w' => e = .returned (.agg #[.int .u64 r1, .int .u64 r2]) ∧ Below w.heap.size w w' := by
  have hu39 := Tryd.underlying39
  have HB := Aside0.mk (Below.refl w.heap.size w)
  have H : (tikref1_least.l0 k a0 1048576) = some (r1, r2) := h
  clear h
  have H' := Aside0.mk H
  clear H
  go_enter Tryd.func108, Tryd.ntmps108
  go_wp2_with (first | ((with_reducible refine gate_dst (N := 2) rfl ?_); refine box_event ?hg (N := 2) ?hd (cs := #[.int .u64 0, .int .u64 0]) (t := 39) ?hr ?_; (case hd => rfl); (case hg => rfl); (case hr => first | (go_simp; done) | (go_simp; rfl)); intro gb106 hg w2 hbox hb; have n0_ := Aside0.mk (below_step (by repeat (first | (with_reducible first | exact HB.out | apply below_alloc | apply pw_below_drewN | apply below_drew1) | exact HB.out)) hb); have n1_ := Aside0.mk (hbox); have n2_ := Aside0.mk ((by rw [hg]; exact (below_size (by repeat (first | (with_reducible first | exact HB.out | apply below_alloc | apply pw_below_drewN | apply below_drew1) | exact HB.out))) : w.heap.size ≤ gb106)); have n3_ := Aside0.mk ((by rw [hg]; exact (below_size (by repeat (first | (with_reducible first | exact HB.out | apply below_alloc | apply pw_below_drewN | apply below_drew1) | exact HB.out))) : w.heap.size ≤ gb106)); clear HB; have HB := n0_; have BK106 := n1_; have GW106 := n2_; have GE106 := n3_; clear n0_ n1_ n2_ n3_; clear hb hbox hg) | ((with_reducible refine gate_dst (N := 3) rfl ?_); refine box_event ?hg (N := 3) ?hd (cs := #[.int .u64 0, .int .u64 0]) (t := 39) ?hr ?_; (case hd => rfl); (case hg => rfl); (case hr => first | (go_simp; done) | (go_simp; rfl)); intro gb107 hg w3 hbox hb; have n0_ := Aside0.mk (blk_below (g := gb106) (o := .cells #[.int .u64 0, .int .u64 0] 39 (0, 0)) (by (with_reducible repeat (first | refine blk_drewN ?_ _ | refine blk_drew ?_ | refine blk_alloc ?_ _)); exact BK106.out) hb); have n1_ := Aside0.mk (below_step (by repeat (first | (with_reducible first | exact HB.out | apply below_alloc | apply pw_below_drewN | apply below_drew1 | refine below_set ?_ GE106.out) | exact HB.out)) hb); have n2_ := Aside0.mk (hbox); have n3_ := Aside0.mk ((by rw [hg]; exact (below_size (by repeat (first | (with_reducible first | exact HB.out | apply below_alloc | apply pw_below_drewN | apply below_drew1 | refine below_set ?_ GE106.out) | exact HB.out))) : w.heap.size ≤ gb107)); have n4_ := Aside0.mk ((by rw [hg]; exact (below_size (by repeat (first | (with_reducible first | exact HB.out | apply below_alloc | apply pw_below_drewN | apply below_drew1 | refine below_set ?_ GE106.out) | exact HB.out))) : w.heap.size ≤ gb107)); have n5_ := Aside0.mk ((by rw [hg]; exact Nat.ne_of_lt (blk_lt (g := gb106) (o := .cells #[.int .u64 0, .int .u64 0] 39 (0, 0)) (by (with_reducible repeat (first | refine blk_drewN ?_ _ | refine blk_drew ?_ | refine blk_alloc ?_ _)); exact BK106.out)) : gb106 ≠ gb107)); have n6_ := Aside0.mk ((by rw [hg]; exact Nat.ne_of_gt (blk_lt (g := gb106) (o := .cells #[.int .u64 0, .int .u64 0] 39 (0, 0)) (by (with_reducible repeat (first | refine blk_drewN ?_ _ | refine blk_drew ?_ | refine blk_alloc ?_ _)); exact BK106.out)) : gb107 ≠ gb106)); clear BK106; clear HB; have BK106 := n0_; have HB := n1_; have BK107 := n2_; have GW107 := n3_; have GE107 := n4_; have NB106_107 := n5_; have NB107_106 := n6_; clear n0_ n1_ n2_ n3_ n4_ n5_ n6_; clear hb hbox hg; have hnb4 := NB107_106.out; have hnc4 := NB106_107.out; have hcz5_0 : w3.cell? ⟨gb107, 0, none⟩ = some (.int .u64 0) := (blk_cell BK107.out 0).trans rfl; have hcz5_1 : w3.cell? ⟨gb107, 1, none⟩ = some (.int .u64 0) := (blk_cell BK107.out 1).trans rfl; have hfz5_0 := blk_frozen BK107.out 0; have hfz5_1 := blk_frozen BK107.out 1))
  go_loopg [] k (fun kq w' => ∃ (x108000_1 : Int) (x108001_1 : Int), Aside0 (tikref1_least.l0 kq x108000_1 x108001_1 = some (r1, r2)) ∧ Aside0 (kq ≤ k) ∧ Aside0 (w'.heap[gb106]? = some (.cells #[.int .u64 0, .int .u64 0] 39 (0, 0))) ∧ Aside0 (w'.heap[gb107]? = some (.cells #[.int .u64 x108000_1, .int .u64 x108001_1] 39 (0, 0))) ∧ Aside0 (Below w.heap.size w w'))
  case atStart => exact ⟨(a0), (1048576), H', ⟨Nat.le_refl _⟩, ⟨by (with_reducible repeat (first | refine blk_drewN ?_ _ | refine blk_drew ?_ | refine blk_alloc ?_ _)); refine blk_far ?_ NB106_107.out _; (with_reducible repeat (first | refine blk_drewN ?_ _ | refine blk_drew ?_ | refine blk_alloc ?_ _)); refine blk_far ?_ NB106_107.out _; (with_reducible repeat (first | refine blk_drewN ?_ _ | refine blk_drew ?_ | refine blk_alloc ?_ _)); exact BK106.out⟩, ⟨by (with_reducible repeat (first | refine blk_drewN ?_ _ | refine blk_drew ?_ | refine blk_alloc ?_ _)); refine blk_put (cs := #[.int .u64 a0, .int .u64 0]) ?_ 1 _ rfl; (with_reducible repeat (first | refine blk_drewN ?_ _ | refine blk_drew ?_ | refine blk_alloc ?_ _)); refine blk_put (cs := #[.int .u64 0, .int .u64 0]) ?_ 0 _ rfl; (with_reducible repeat (first | refine blk_drewN ?_ _ | refine blk_drew ?_ | refine blk_alloc ?_ _)); exact BK107.out⟩, ⟨by repeat (first | (with_reducible first | exact HB.out | apply below_alloc | apply pw_below_drewN | apply below_drew1 | refine below_set ?_ GE106.out | refine below_set ?_ GE107.out) | exact HB.out)⟩⟩
  case round =>
    clear H'
    try clear c1
    try clear p2
    try clear c4
    try clear hcz5_0
    try clear hcz5_1
    try clear hfz5_0
    try clear hfz5_1
    obtain ⟨x108000_1, x108001_1, HA, HK1, BK106, BK107, HB⟩ := hrel
    cases gk with
    | zero => exact absurd HA.out (by simp [tikref1_least.l0])
    | succ k1 =>
      have H := HA.out
      clear HA
      simp only [tikref1_least.l0] at H
      by_cases c6 : x108001_1 > 1
      · rw [if_pos c6] at H
        have c6b0 : decide (1 < x108001_1) = true := decide_eq_true c6
        clear c6
        by_cases c7 : (Int.tmod x108000_1 2) = 0
        · rw [if_pos c7] at H
          have c7b0 : ((Int.tmod x108000_1 2) == 0) = true := beq_iff_eq.mpr c7
          have c7b1 : ((Int.tmod x108000_1 2) != 0) = false := bne_eq_false_iff_eq.mpr c7
          clear c7
          have H' := Aside0.mk H
          clear H
          have hnb8 := NB107_106.out
          have hnc8 := NB106_107.out
          have hcz9_0 : wr.cell? ⟨gb107, 0, none⟩ = some (.int .u64 x108000_1) := (blk_cell BK107.out 0).trans rfl
          have hcz9_1 : wr.cell? ⟨gb107, 1, none⟩ = some (.int .u64 x108001_1) := (blk_cell BK107.out 1).trans rfl
          have hfz9_0 := blk_frozen BK107.out 0
          have hfz9_1 := blk_frozen BK107.out 1
          go_wp2
          go_roundg k1
          case measure => have := HK1.out; omega
          case rel => exact ⟨(IntKind.u64.wrap (Int.tdiv x108000_1 2)), (IntKind.u64.wrap (Int.tdiv x108001_1 2)), H', ⟨by have := HK1.out; omega⟩, ⟨by (with_reducible repeat (first | refine blk_drewN ?_ _ | refine blk_drew ?_ | refine blk_alloc ?_ _)); refine blk_far ?_ NB106_107.out _; (with_reducible repeat (first | refine blk_drewN ?_ _ | refine blk_drew ?_ | refine blk_alloc ?_ _)); refine blk_far ?_ NB106_107.out _; (with_reducible repeat (first | refine blk_drewN ?_ _ | refine blk_drew ?_ | refine blk_alloc ?_ _)); exact BK106.out⟩, ⟨by (with_reducible repeat (first | refine blk_drewN ?_ _ | refine blk_drew ?_ | refine blk_alloc ?_ _)); refine blk_put (cs := #[.int .u64 (IntKind.u64.wrap (Int.tdiv x108000_1 2)), .int .u64 x108001_1]) ?_ 1 _ rfl; (with_reducible repeat (first | refine blk_drewN ?_ _ | refine blk_drew ?_ | refine blk_alloc ?_ _)); refine blk_put (cs := #[.int .u64 x108000_1, .int .u64 x108001_1]) ?_ 0 _ rfl; (with_reducible repeat (first | refine blk_drewN ?_ _ | refine blk_drew ?_ | refine blk_alloc ?_ _)); exact BK107.out⟩, ⟨by repeat (first | (with_reducible first | exact HB.out | apply below_alloc | apply pw_below_drewN | apply below_drew1 | refine below_set ?_ GE106.out | refine below_set ?_ GE107.out) | exact HB.out)⟩⟩
        · rw [if_neg c7] at H
          have c7b0 : ((Int.tmod x108000_1 2) == 0) = false := beq_eq_false_iff_ne.mpr c7
          have c7b1 : ((Int.tmod x108000_1 2) != 0) = true := bne_iff_ne.mpr c7
          simp only [Option.some.injEq, Prod.mk.injEq] at H
          obtain ⟨rfl, rfl⟩ := H
          have hnb10 := NB107_106.out
          have hnc10 := NB106_107.out
          have hcz11_0 : wr.cell? ⟨gb107, 0, none⟩ = some (.int .u64 x108000_1) := (blk_cell BK107.out 0).trans rfl
          have hcz11_1 : wr.cell? ⟨gb107, 1, none⟩ = some (.int .u64 x108001_1) := (blk_cell BK107.out 1).trans rfl
          have hfz11_0 := blk_frozen BK107.out 0
          have hfz11_1 := blk_frozen BK107.out 1
          have hcz12_0 : wr.cell? ⟨gb106, 0, none⟩ = some (.int .u64 0) := (blk_cell BK106.out 0).trans rfl
          have hcz12_1 : wr.cell? ⟨gb106, 1, none⟩ = some (.int .u64 0) := (blk_cell BK106.out 1).trans rfl
          have hfz12_0 := blk_frozen BK106.out 0
          have hfz12_1 := blk_frozen BK106.out 1
          go_wp2
          refine bodyPost_ret (results_cell_row rfl _ _ gb106 39 #[.int .u64 x108000_1, .int .u64 x108001_1] (0, 0) _ rfl (by (with_reducible repeat (first | refine blk_drewN ?_ _ | refine blk_drew ?_ | refine blk_alloc ?_ _)); refine blk_put (cs := #[.int .u64 x108000_1, .int .u64 0]) ?_ 1 _ rfl; (with_reducible repeat (first | refine blk_drewN ?_ _ | refine blk_drew ?_ | refine blk_alloc ?_ _)); refine blk_put (cs := #[.int .u64 0, .int .u64 0]) ?_ 0 _ rfl; (with_reducible repeat (first | refine blk_drewN ?_ _ | refine blk_drew ?_ | refine blk_alloc ?_ _)); exact BK106.out) Tryd.underlying39 rfl (by kernel_rfl)) rfl ?_
          exact ⟨by first | rfl | (simp [errW_none, errW_some] <;> rfl) | (simp [*, errW_none, errW_some] <;> rfl), by repeat (first | (with_reducible first | exact HB.out | apply below_alloc | apply pw_below_drewN | apply below_drew1 | refine below_set ?_ GE106.out | refine below_set ?_ GE107.out) | exact HB.out)⟩
      · rw [if_neg c6] at H
        have c6b0 : decide (1 < x108001_1) = false := decide_eq_false c6
        clear c6
        simp only [Option.some.injEq, Prod.mk.injEq] at H
        obtain ⟨rfl, rfl⟩ := H
        have hnb13 := NB107_106.out
        have hnc13 := NB106_107.out
        have hcz14_0 : wr.cell? ⟨gb107, 0, none⟩ = some (.int .u64 x108000_1) := (blk_cell BK107.out 0).trans rfl
        have hcz14_1 : wr.cell? ⟨gb107, 1, none⟩ = some (.int .u64 x108001_1) := (blk_cell BK107.out 1).trans rfl
        have hfz14_0 := blk_frozen BK107.out 0
        have hfz14_1 := blk_frozen BK107.out 1
        have hcz15_0 : wr.cell? ⟨gb106, 0, none⟩ = some (.int .u64 0) := (blk_cell BK106.out 0).trans rfl
        have hcz15_1 : wr.cell? ⟨gb106, 1, none⟩ = some (.int .u64 0) := (blk_cell BK106.out 1).trans rfl
        have hfz15_0 := blk_frozen BK106.out 0
        have hfz15_1 := blk_frozen BK106.out 1
        go_wp2
        refine bodyPost_ret (results_cell_row rfl _ _ gb106 39 #[.int .u64 x108000_1, .int .u64 x108001_1] (0, 0) _ rfl (by (with_reducible repeat (first | refine blk_drewN ?_ _ | refine blk_drew ?_ | refine blk_alloc ?_ _)); refine blk_put (cs := #[.int .u64 x108000_1, .int .u64 0]) ?_ 1 _ rfl; (with_reducible repeat (first | refine blk_drewN ?_ _ | refine blk_drew ?_ | refine blk_alloc ?_ _)); refine blk_put (cs := #[.int .u64 0, .int .u64 0]) ?_ 0 _ rfl; (with_reducible repeat (first | refine blk_drewN ?_ _ | refine blk_drew ?_ | refine blk_alloc ?_ _)); exact BK106.out) Tryd.underlying39 rfl (by kernel_rfl)) rfl ?_
        exact ⟨by first | rfl | (simp [errW_none, errW_some] <;> rfl) | (simp [*, errW_none, errW_some] <;> rfl), by repeat (first | (with_reducible first | exact HB.out | apply below_alloc | apply pw_below_drewN | apply below_drew1 | refine below_set ?_ GE106.out | refine below_set ?_ GE107.out) | exact HB.out)⟩
end Go.Proofs.YtlgfmmkabnbllaaDoor.PD
namespace Go.Proofs.YtlgfmmkabnbllaaDoor.PK
open Go.RowKit Go.Proofs.YtlgfmmkabnbllaaDoorW.PrintWords Go.Proofs.YtlgfmmkabnbllaaDoorW.PrintLast Go.Proofs.YtlgfmmkabnbllaaDoorW.PrintMore
attribute [local go_sem] max2_int min2_int max_two min_two max_three min_three max_four min_four
open Go.Proofs.YtlgfmmkabnbllaaDoor.PD
set_option linter.unusedVariables false
set_option linter.unusedSimpArgs false
def errW : Option Int → Value
  | none => .nilIface
  | some c => .iface 0 (.int .i64 c)
theorem errW_none : errW none = .nilIface := rfl
theorem errW_some (c : Int) : errW (some c) = .iface 0 (.int .i64 c) := rfl
end Go.Proofs.YtlgfmmkabnbllaaDoor.PK
namespace Go.Proofs.YtlgfmmkabnbllaaDoor.PK
open Go.RowKit Go.Proofs.YtlgfmmkabnbllaaDoorW.PrintWords Go.Proofs.YtlgfmmkabnbllaaDoorW.PrintLast Go.Proofs.YtlgfmmkabnbllaaDoorW.PrintMore
attribute [local go_sem] max2_int min2_int max_two min_two max_three min_three max_four min_four
open Go.Proofs.YtlgfmmkabnbllaaDoor.PD
set_option linter.unusedVariables false
set_option linter.unusedSimpArgs false
def tikref22_Clock_at.f (k : Nat) (s0_0 : Int) (s0_1 : Int) (s0_2 : Int) (s0_3 : Int) (s0_4 : Int) (a1 : Int) : Option (Int × Int × Int × Int × Int × Int × Int) := if a1 > s0_0 then ((tikref1_Scale.f k (IntKind.u64.wrap (a1 - s0_0)) s0_2 s0_3 s0_4).bind fun bt101 => (if bt101.2.2 = 0 then (if bt101.1 ≥ (IntKind.u64.wrap (4611686018427387904 - s0_1)) then (some (4611686018427387904, 0, s0_0, s0_1, s0_2, s0_3, s0_4)) else (some (IntKind.u64.wrap (s0_1 + bt101.1), bt101.2.1, s0_0, s0_1, s0_2, s0_3, s0_4))) else (some (4611686018427387904, 0, s0_0, s0_1, s0_2, s0_3, s0_4)))) else ((tikref1_Scale.f k 0 s0_2 s0_3 s0_4).bind fun bt104 => (if bt104.2.2 = 0 then (if bt104.1 ≥ (IntKind.u64.wrap (4611686018427387904 - s0_1)) then (some (4611686018427387904, 0, s0_0, s0_1, s0_2, s0_3, s0_4)) else (some (IntKind.u64.wrap (s0_1 + bt104.1), bt104.2.1, s0_0, s0_1, s0_2, s0_3, s0_4))) else (some (4611686018427387904, 0, s0_0, s0_1, s0_2, s0_3, s0_4))))
def tikref22_Clock_at.T4 : Bool × List (List Nat × List Nat) := (true, [([], []), ([], []), ([1], [1]), ([2], [2]), ([3], [3]), ([], []), ([5], [5]), ([6], [6]), ([7], [7]), ([0, 4, 8], [0, 4, 8]), ([9], [9]), ([10], [10]), ([10], [10]), ([10], [10]), ([11, 9, 0, 1, 2, 3, 4, 5, 6, 7, 8, 9, 10, 11], [11]), ([12, 14, 0, 1, 2, 3, 4, 5, 6, 7, 8, 9, 10, 11, 12, 14], [12]), ([13, 15, 0, 1, 2, 3, 4, 5, 6, 7, 8, 9, 10, 11, 12, 13, 14, 15], [13])])
def tikref22_Clock_at.B4 : List Nat := [0, 0, 2, 6, 14, 0, 32, 96, 224, 511, 1023, 2047, 2047, 2047, 4095, 24575, 65535]
theorem tikref22_Clock_at.tab4 : rtab .any (opsOf Tryd.f110 4) = tikref22_Clock_at.T4 := by kernel_rfl
theorem tikref22_Clock_at.bits4 : waitsOk tikref22_Clock_at.T4.2 tikref22_Clock_at.B4 = true := by kernel_rfl
set_option maxHeartbeats 8000000 in
set_option maxRecDepth 100000 in
theorem tikref22_Clock_at.calls (k : Nat) (g : Nat) (mo po : Int) (s0_0 : Int) (s0_1 : Int) (s0_2 : Int) (s0_3 : Int) (s0_4 : Int) (a1 : Int) (r1 : Int) (r2 : Int) (r3 : Int) (r4 : Int) (r5 : Int) (r6 : Int) (r7 : Int) (w0 w : World) (hI : IsS43 w0 w g mo po s0_0 s0_1 s0_2 s0_3 s0_4) (hB : Below w0.heap.size w0 w) (h : tikref22_Clock_at.f k s0_0 s0_1 s0_2 s0_3 s0_4 a1 = some (r1, r2, r3, r4, r5, r6, r7)) :
    Calls Tryd.prog 110 #[.pointer (some ⟨g, 2, none⟩), .int .u64 a1] w fun e w' => e = .returned (.tuple #[.int .u64 r1, .int .u64 r2]) ∧ IsS43 w0 w' g mo po r3 r4 r5 r6 r7 ∧ Below w0.heap.size w0 w' ∧ KeepBut w w' g none := by
  have hu39 := Tryd.underlying39
  have HI0 := Aside0.mk hI
  have HK := Aside0.mk (KeepBut.refl w g none)
  have HL := Aside0.mk hB.size
  clear hI
  have HW0 := Aside0.mk hB.size
  have HB := Aside0.mk hB
  clear hB
  have H : (if a1 > s0_0 then ((tikref1_Scale.f k (IntKind.u64.wrap (a1 - s0_0)) s0_2 s0_3 s0_4).bind fun bt101 => (if bt101.2.2 = 0 then (if bt101.1 ≥ (IntKind.u64.wrap (4611686018427387904 - s0_1)) then (some (4611686018427387904, 0, s0_0, s0_1, s0_2, s0_3, s0_4)) else (some (IntKind.u64.wrap (s0_1 + bt101.1), bt101.2.1, s0_0, s0_1, s0_2, s0_3, s0_4))) else (some (4611686018427387904, 0, s0_0, s0_1, s0_2, s0_3, s0_4)))) else ((tikref1_Scale.f k 0 s0_2 s0_3 s0_4).bind fun bt104 => (if bt104.2.2 = 0 then (if bt104.1 ≥ (IntKind.u64.wrap (4611686018427387904 - s0_1)) then (some (4611686018427387904, 0, s0_0, s0_1, s0_2, s0_3, s0_4)) else (some (IntKind.u64.wrap (s0_1 + bt104.1), bt104.2.1, s0_0, s0_1, s0_2, s0_3, s0_4))) else (some (4611686018427387904, 0, s0_0, s0_1, s0_2, s0_3, s0_4))))) = some (r1, r2, r3, r4, r5, r6, r7) := h
  clear h
  by_cases c3 : a1 > s0_0
  · rw [if_pos c3] at H
    have c3b0 : decide (s0_0 < a1) = true := decide_eq_true c3
    clear c3
    replace H := Option.bind_eq_some_iff.mp H
    obtain ⟨⟨t101, t102, t103⟩, A40, H⟩ := H
    replace H : (if t103 = 0 then (if t101 ≥ (IntKind.u64.wrap (4611686018427387904 - s0_1)) then (some (4611686018427387904, 0, s0_0, s0_1, s0_2, s0_3, s0_4)) else (some (IntKind.u64.wrap (s0_1 + t101), t102, s0_0, s0_1, s0_2, s0_3, s0_4))) else (some (4611686018427387904, 0, s0_0, s0_1, s0_2, s0_3, s0_4))) = some (r1, r2, r3, r4, r5, r6, r7) := H
    have A4 := Aside0.mk A40
    clear A40
    by_cases c5 : t103 = 0
    · rw [if_pos c5] at H
      have c5b0 : (t103 == 0) = true := beq_iff_eq.mpr c5
      have c5b1 : (t103 != 0) = false := bne_eq_false_iff_eq.mpr c5
      clear c5
      by_cases c6 : t101 ≥ (IntKind.u64.wrap (4611686018427387904 - s0_1))
      · rw [if_pos c6] at H
        have c6b0 : decide ((IntKind.u64.wrap (4611686018427387904 - s0_1)) ≤ t101) = true := decide_eq_true c6
        clear c6
        simp only [Option.some.injEq, Prod.mk.injEq] at H
        obtain ⟨rfl, rfl, rfl, rfl, rfl, rfl, rfl⟩ := H
        obtain ⟨HGz7, hgz7⟩ := HI0.out
        have hcz7_0 := cellS43_2 HGz7
        have hcz7_1 := cellS43_3 HGz7
        have hcz7_2 := cellS43_4 HGz7
        have hcz7_3 := cellS43_5 HGz7
        have hcz7_4 := cellS43_6 HGz7
        have hfz7_0 := blk_frozen HGz7 2
        have hfz7_1 := blk_frozen HGz7 3
        have hfz7_2 := blk_frozen HGz7 4
        have hfz7_3 := blk_frozen HGz7 5
        have hfz7_4 := blk_frozen HGz7 6
        clear HGz7 hgz7
        go_enter Tryd.func110, Tryd.ntmps110
        try go_wp2
        have n0_ := Aside0.mk (IsS43.drew HI0.out)
        have n1_ := Aside0.mk (keep_drew HK.out)
        have n2_ := Aside0.mk (below_drew1 HB.out)
        clear HI0
        clear HK
        clear HB
        have HI0 := n0_
        have HK := n1_
        have HB := n2_
        clear n0_ n1_ n2_
        refine start_ (n := 17) (S := fun w' => w'.cell? ⟨g, 2, none⟩ = some (.int .u64 s0_0) ∧ w'.cell? ⟨g, 3, none⟩ = some (.int .u64 s0_1) ∧ w'.cell? ⟨g, 4, none⟩ = some (.int .u64 s0_2) ∧ w'.cell? ⟨g, 5, none⟩ = some (.int .u64 s0_3) ∧ w'.cell? ⟨g, 6, none⟩ = some (.int .u64 s0_4)) (ds := []) #[false, false, false, false, false, false, false, false, false, false, false, false, false, false, false, false, false] (by kernel_rfl) rfl rfl ⟨(blk_cell (Aside0.mk HI0.out.1).out 2).trans rfl, (blk_cell (Aside0.mk HI0.out.1).out 3).trans rfl, (blk_cell (Aside0.mk HI0.out.1).out 4).trans rfl, (blk_cell (Aside0.mk HI0.out.1).out 5).trans rfl, (blk_cell (Aside0.mk HI0.out.1).out 6).trans rfl⟩ (fun hHeld => ?_); refine with_tabW tikref22_Clock_at.tab4 tikref22_Clock_at.bits4 (fun HT_ HW_ => ?_)
        generalize w.drew = w8 at HI0 HK HB hHeld ⊢
        refine pure_ (i := 0) (N := some 23) (v := ?_) (a' := ?_) #[true, false, false, false, false, false, false, false, false, false, false, false, false, false, false, false, false] rfl rfl (any_of HT_.out (by kernel_rfl)) (fun _ _ _ h => h) (Or.inl ⟨by rfl, ?_⟩) ?_ ?_
        rotate_left
        · intro w'
          go_simp
          with_reducible rfl
        rotate_left
        · simp only [Act.put, List.setIfInBounds_toArray, List.set_cons_zero, List.set_cons_succ, i64_w, i32_w]
          rfl
        refine pure_ (i := 1) (N := some 24) (v := ?_) (a' := ?_) #[true, true, false, false, false, false, false, false, false, false, false, false, false, false, false, false, false] rfl rfl (any_of HT_.out (by kernel_rfl)) (fun _ _ _ h => h) (Or.inl ⟨by rfl, ?_⟩) ?_ ?_
        rotate_left
        · intro w'
          go_simp
          with_reducible rfl
        rotate_left
        · simp only [Act.put, List.setIfInBounds_toArray, List.set_cons_zero, List.set_cons_succ, i64_w, i32_w]
          rfl
        refine pure_ (i := 2) (N := some 25) (v := ?_) (a' := ?_) #[true, true, true, false, false, false, false, false, false, false, false, false, false, false, false, false, false] rfl rfl (any_of HT_.out (by kernel_rfl)) (fun _ _ _ h => h) (Or.inl ⟨by rfl, ?_⟩) ?_ ?_
        rotate_left
        · intro w'
          go_simp
          with_reducible rfl
        rotate_left
        · simp only [Act.put, List.setIfInBounds_toArray, List.set_cons_zero, List.set_cons_succ, i64_w, i32_w]
          rfl
        refine pure_ (i := 3) (N := some 26) (v := ?_) (a' := ?_) #[true, true, true, true, false, false, false, false, false, false, false, false, false, false, false, false, false] rfl rfl (any_of HT_.out (by kernel_rfl)) (fun _ _ _ h => h) (Or.inl ⟨by rfl, ?_⟩) ?_ ?_
        rotate_left
        · intro w'
          go_simp
          with_reducible rfl
        rotate_left
        · simp only [Act.put, List.setIfInBounds_toArray, List.set_cons_zero, List.set_cons_succ, i64_w, i32_w]
          rfl
        refine pure_ (i := 5) (N := some 28) (v := ?_) (a' := ?_) #[true, true, true, true, false, true, false, false, false, false, false, false, false, false, false, false, false] rfl rfl (any_of HT_.out (by kernel_rfl)) (fun _ _ _ h => h) (Or.inl ⟨by rfl, ?_⟩) ?_ ?_
        rotate_left
        · intro w'
          go_simp
          with_reducible rfl
        rotate_left
        · simp only [Act.put, List.setIfInBounds_toArray, List.set_cons_zero, List.set_cons_succ, i64_w, i32_w]
          rfl
        refine pure_ (i := 6) (N := some 29) (v := ?_) (a' := ?_) #[true, true, true, true, false, true, true, false, false, false, false, false, false, false, false, false, false] rfl rfl (any_of HT_.out (by kernel_rfl)) (fun _ _ _ h => h) (Or.inl ⟨by rfl, ?_⟩) ?_ ?_
        rotate_left
        · intro w'
          go_simp
          with_reducible rfl
        rotate_left
        · simp only [Act.put, List.setIfInBounds_toArray, List.set_cons_zero, List.set_cons_succ, i64_w, i32_w]
          rfl
        refine pure_ (i := 7) (N := some 30) (v := ?_) (a' := ?_) #[true, true, true, true, false, true, true, true, false, false, false, false, false, false, false, false, false] rfl rfl (any_of HT_.out (by kernel_rfl)) (fun _ _ _ h => h) (Or.inl ⟨by rfl, ?_⟩) ?_ ?_
        rotate_left
        · intro w'
          go_simp
          with_reducible rfl
        rotate_left
        · simp only [Act.put, List.setIfInBounds_toArray, List.set_cons_zero, List.set_cons_succ, i64_w, i32_w]
          rfl
        refine take_ (i := 4) (N := some 27) (v := ?_) (a' := ?_) #[true, true, true, true, true, true, true, true, false, false, false, false, false, false, false, false, false] rfl rfl (take_ofW HT_.out HW_.out (by kernel_rfl)) (fun _ _ _ h => h) (Or.inl ⟨by rfl, ?_⟩) hHeld ?_ ?_
        rotate_left
        · rintro w' ⟨s0, s1, s2, s3, s4⟩
          go_simp
          with_reducible rfl
        rotate_left
        · simp only [Act.put, List.setIfInBounds_toArray, List.set_cons_zero, List.set_cons_succ, i64_w, i32_w]
          rfl
        refine take_ (i := 8) (N := some 31) (v := ?_) (a' := ?_) #[true, true, true, true, true, true, true, true, true, false, false, false, false, false, false, false, false] rfl rfl (take_ofW HT_.out HW_.out (by kernel_rfl)) (fun _ _ _ h => h) (Or.inl ⟨by rfl, ?_⟩) hHeld ?_ ?_
        rotate_left
        · rintro w' ⟨s0, s1, s2, s3, s4⟩
          go_simp
          with_reducible rfl
        rotate_left
        · simp only [Act.put, List.setIfInBounds_toArray, List.set_cons_zero, List.set_cons_succ, i64_w, i32_w]
          rfl
        refine one_ (i := 9) (N := some 32) #[true, true, true, true, true, true, true, true, true, true, false, false, false, false, false, false, false] rfl rfl (one_of HT_.out (by kernel_rfl)) (by decide) (fun K hK => ?_)
        refine goes_ Tryd.func114 (by kernel_rfl) rfl #[.int .u64 (IntKind.u64.wrap (a1 - s0_0)), .int .u64 s0_2, .agg #[.int .u64 s0_3, .int .u64 s0_4]] (by rfl) rfl rfl (by (try simp only [List.map_toArray, List.map_cons, List.map_nil]); first | done | rfl | (simp only [List.length_drop, List.length_take]; rfl)) ?_
        with_reducible refine (tikref1_Scale.calls k (IntKind.u64.wrap (a1 - s0_0)) s0_2 s0_3 s0_4 t101 t102 t103 _ A4.out).mono ?_
        rintro e w9 ⟨rfl, hb⟩
        refine ⟨_, rfl, ?_⟩
        have n0_ := Aside0.mk (IsS43.below (by repeat (first | (with_reducible first | exact HI0.out | apply IsS43.alloc | apply IsS43.drewN | apply IsS43.drew | apply IsS43.set_2 | apply IsS43.set_3 | apply IsS43.set_4 | apply IsS43.set_5 | apply IsS43.set_6) | exact HI0.out)) hb)
        have n1_ := Aside0.mk (KeepBut.trans (by repeat (first | (with_reducible first | exact HK.out | apply KeepBut.set_ | apply keep_drewN | apply keep_drew | apply keep_alloc) | exact HK.out)) (KeepBut.of_below hb g none) (.inl rfl))
        have n2_ := Aside0.mk (below_step (by repeat (first | (with_reducible first | exact HB.out | apply below_alloc | apply pw_below_drewN | apply below_drew1 | refine below_set ?_ (IsS43.ge HI0.out)) | exact HB.out)) hb)
        clear HI0
        clear HK
        clear HB
        have HI0 := n0_
        have HK := n1_
        have HB := n2_
        clear n0_ n1_ n2_
        (try clear hb)
        (try clear hb2)
        (try clear hk)
        (try clear hi)
        refine hK.out _ _ ⟨(blk_cell (Aside0.mk HI0.out.1).out 2).trans rfl, (blk_cell (Aside0.mk HI0.out.1).out 3).trans rfl, (blk_cell (Aside0.mk HI0.out.1).out 4).trans rfl, (blk_cell (Aside0.mk HI0.out.1).out 5).trans rfl, (blk_cell (Aside0.mk HI0.out.1).out 6).trans rfl⟩ (fun hHeld => ?_)
        clear hK K
        refine norm_ (a' := ?_) ?_ ?_
        rotate_left
        · show Act.put _ (some 32) _ = _
          simp only [Act.put, List.setIfInBounds_toArray, List.set_cons_zero, List.set_cons_succ, i64_w, i32_w]
          rfl
        refine pure_ (i := 10) (N := some 22) (v := ?_) (a' := ?_) #[true, true, true, true, true, true, true, true, true, true, true, false, false, false, false, false, false] rfl rfl (any_of HT_.out (by kernel_rfl)) (fun _ _ _ h => h) (Or.inl ⟨by rfl, ?_⟩) ?_ ?_
        rotate_left
        · intro w'
          go_simp
          with_reducible rfl
        rotate_left
        · simp only [Act.put, List.setIfInBounds_toArray, List.set_cons_zero, List.set_cons_succ, i64_w, i32_w]
          rfl
        refine pure_ (i := 11) (N := some 33) (v := ?_) (a' := ?_) #[true, true, true, true, true, true, true, true, true, true, true, true, false, false, false, false, false] rfl rfl (any_of HT_.out (by kernel_rfl)) (fun _ _ _ h => h) (Or.inl ⟨by rfl, ?_⟩) ?_ ?_
        rotate_left
        · intro w'
          go_simp
          with_reducible rfl
        rotate_left
        · simp only [Act.put, List.setIfInBounds_toArray, List.set_cons_zero, List.set_cons_succ, i64_w, i32_w]
          rfl
        refine pure_ (i := 12) (N := some 34) (v := ?_) (a' := ?_) #[true, true, true, true, true, true, true, true, true, true, true, true, true, false, false, false, false] rfl rfl (any_of HT_.out (by kernel_rfl)) (fun _ _ _ h => h) (Or.inl ⟨by rfl, ?_⟩) ?_ ?_
        rotate_left
        · intro w'
          go_simp
          with_reducible rfl
        rotate_left
        · simp only [Act.put, List.setIfInBounds_toArray, List.set_cons_zero, List.set_cons_succ, i64_w, i32_w]
          rfl
        refine pure_ (i := 13) (N := some 35) (v := ?_) (a' := ?_) #[true, true, true, true, true, true, true, true, true, true, true, true, true, true, false, false, false] rfl rfl (any_of HT_.out (by kernel_rfl)) (fun _ _ _ h => h) (Or.inl ⟨by rfl, ?_⟩) ?_ ?_
        rotate_left
        · intro w'
          go_simp
          with_reducible rfl
        rotate_left
        · simp only [Act.put, List.setIfInBounds_toArray, List.set_cons_zero, List.set_cons_succ, i64_w, i32_w]
          rfl
        refine pure_ (i := 14) (N := some 7) (v := ?_) (a' := ?_) #[true, true, true, true, true, true, true, true, true, true, true, true, true, true, true, false, false] rfl rfl (any_of HT_.out (by kernel_rfl)) (fun _ _ _ h => h) (Or.inl ⟨by rfl, ?_⟩) ?_ ?_
        rotate_left
        · intro w'
          go_simp
          with_reducible rfl
        rotate_left
        · simp only [Act.put, List.setIfInBounds_toArray, List.set_cons_zero, List.set_cons_succ, i64_w, i32_w]
          rfl
        refine pure_ (i := 15) (N := some 8) (v := ?_) (a' := ?_) #[true, true, true, true, true, true, true, true, true, true, true, true, true, true, true, true, false] rfl rfl (any_of HT_.out (by kernel_rfl)) (fun _ _ _ h => h) (Or.inl ⟨by rfl, ?_⟩) ?_ ?_
        rotate_left
        · intro w'
          go_simp
          with_reducible rfl
        rotate_left
        · simp only [Act.put, List.setIfInBounds_toArray, List.set_cons_zero, List.set_cons_succ, i64_w, i32_w]
          rfl
        refine pure_ (i := 16) (N := some 9) (v := ?_) (a' := ?_) #[true, true, true, true, true, true, true, true, true, true, true, true, true, true, true, true, true] rfl rfl (any_of HT_.out (by kernel_rfl)) (fun _ _ _ h => h) (Or.inl ⟨by rfl, ?_⟩) ?_ ?_
        rotate_left
        · intro w'
          go_simp
          with_reducible rfl
        rotate_left
        · simp only [Act.put, List.setIfInBounds_toArray, List.set_cons_zero, List.set_cons_succ, i64_w, i32_w]
          rfl
        refine done_ (done_of HT_.out (by kernel_rfl)) ?_
        obtain ⟨HGz10, hgz10⟩ := HI0.out
        have hcz10_0 := cellS43_2 HGz10
        have hcz10_1 := cellS43_3 HGz10
        have hcz10_2 := cellS43_4 HGz10
        have hcz10_3 := cellS43_5 HGz10
        have hcz10_4 := cellS43_6 HGz10
        have hfz10_0 := blk_frozen HGz10 2
        have hfz10_1 := blk_frozen HGz10 3
        have hfz10_2 := blk_frozen HGz10 4
        have hfz10_3 := blk_frozen HGz10 5
        have hfz10_4 := blk_frozen HGz10 6
        clear HGz10 hgz10
        try go_wp2
        go_ret2
        exact ⟨by first | rfl | (simp [errW_none, errW_some] <;> rfl) | (simp [*, errW_none, errW_some] <;> rfl), by repeat (first | (with_reducible first | exact HI0.out | apply IsS43.alloc | apply IsS43.drewN | apply IsS43.drew | apply IsS43.set_2 | apply IsS43.set_3 | apply IsS43.set_4 | apply IsS43.set_5 | apply IsS43.set_6) | exact HI0.out), by repeat (first | (with_reducible first | exact HB.out | apply below_alloc | apply pw_below_drewN | apply below_drew1 | refine below_set ?_ (IsS43.ge HI0.out)) | exact HB.out), by repeat (first | (with_reducible first | exact HK.out | apply KeepBut.set_ | apply keep_drewN | apply keep_drew | apply keep_alloc) | exact HK.out)⟩
      · rw [if_neg c6] at H
        have c6b0 : decide ((IntKind.u64.wrap (4611686018427387904 - s0_1)) ≤ t101) = false := decide_eq_false c6
        clear c6
        simp only [Option.some.injEq, Prod.mk.injEq] at H
        obtain ⟨rfl, rfl, rfl, rfl, rfl, rfl, rfl⟩ := H
        obtain ⟨HGz11, hgz11⟩ := HI0.out
        have hcz11_0 := cellS43_2 HGz11
        have hcz11_1 := cellS43_3 HGz11
        have hcz11_2 := cellS43_4 HGz11
        have hcz11_3 := cellS43_5 HGz11
        have hcz11_4 := cellS43_6 HGz11
        have hfz11_0 := blk_frozen HGz11 2
        have hfz11_1 := blk_frozen HGz11 3
        have hfz11_2 := blk_frozen HGz11 4
        have hfz11_3 := blk_frozen HGz11 5
        have hfz11_4 := blk_frozen HGz11 6
        clear HGz11 hgz11
        go_enter Tryd.func110, Tryd.ntmps110
        try go_wp2
        have n0_ := Aside0.mk (IsS43.drew HI0.out)
        have n1_ := Aside0.mk (keep_drew HK.out)
        have n2_ := Aside0.mk (below_drew1 HB.out)
        clear HI0
        clear HK
        clear HB
        have HI0 := n0_
        have HK := n1_
        have HB := n2_
        clear n0_ n1_ n2_
        refine start_ (n := 17) (S := fun w' => w'.cell? ⟨g, 2, none⟩ = some (.int .u64 s0_0) ∧ w'.cell? ⟨g, 3, none⟩ = some (.int .u64 s0_1) ∧ w'.cell? ⟨g, 4, none⟩ = some (.int .u64 s0_2) ∧ w'.cell? ⟨g, 5, none⟩ = some (.int .u64 s0_3) ∧ w'.cell? ⟨g, 6, none⟩ = some (.int .u64 s0_4)) (ds := []) #[false, false, false, false, false, false, false, false, false, false, false, false, false, false, false, false, false] (by kernel_rfl) rfl rfl ⟨(blk_cell (Aside0.mk HI0.out.1).out 2).trans rfl, (blk_cell (Aside0.mk HI0.out.1).out 3).trans rfl, (blk_cell (Aside0.mk HI0.out.1).out 4).trans rfl, (blk_cell (Aside0.mk HI0.out.1).out 5).trans rfl, (blk_cell (Aside0.mk HI0.out.1).out 6).trans rfl⟩ (fun hHeld => ?_); refine with_tabW tikref22_Clock_at.tab4 tikref22_Clock_at.bits4 (fun HT_ HW_ => ?_)
        generalize w.drew = w12 at HI0 HK HB hHeld ⊢
        refine pure_ (i := 0) (N := some 23) (v := ?_) (a' := ?_) #[true, false, false, false, false, false, false, false, false, false, false, false, false, false, false, false, false] rfl rfl (any_of HT_.out (by kernel_rfl)) (fun _ _ _ h => h) (Or.inl ⟨by rfl, ?_⟩) ?_ ?_
        rotate_left
        · intro w'
          go_simp
          with_reducible rfl
        rotate_left
        · simp only [Act.put, List.setIfInBounds_toArray, List.set_cons_zero, List.set_cons_succ, i64_w, i32_w]
          rfl
        refine pure_ (i := 1) (N := some 24) (v := ?_) (a' := ?_) #[true, true, false, false, false, false, false, false, false, false, false, false, false, false, false, false, false] rfl rfl (any_of HT_.out (by kernel_rfl)) (fun _ _ _ h => h) (Or.inl ⟨by rfl, ?_⟩) ?_ ?_
        rotate_left
        · intro w'
          go_simp
          with_reducible rfl
        rotate_left
        · simp only [Act.put, List.setIfInBounds_toArray, List.set_cons_zero, List.set_cons_succ, i64_w, i32_w]
          rfl
        refine pure_ (i := 2) (N := some 25) (v := ?_) (a' := ?_) #[true, true, true, false, false, false, false, false, false, false, false, false, false, false, false, false, false] rfl rfl (any_of HT_.out (by kernel_rfl)) (fun _ _ _ h => h) (Or.inl ⟨by rfl, ?_⟩) ?_ ?_
        rotate_left
        · intro w'
          go_simp
          with_reducible rfl
        rotate_left
        · simp only [Act.put, List.setIfInBounds_toArray, List.set_cons_zero, List.set_cons_succ, i64_w, i32_w]
          rfl
        refine pure_ (i := 3) (N := some 26) (v := ?_) (a' := ?_) #[true, true, true, true, false, false, false, false, false, false, false, false, false, false, false, false, false] rfl rfl (any_of HT_.out (by kernel_rfl)) (fun _ _ _ h => h) (Or.inl ⟨by rfl, ?_⟩) ?_ ?_
        rotate_left
        · intro w'
          go_simp
          with_reducible rfl
        rotate_left
        · simp only [Act.put, List.setIfInBounds_toArray, List.set_cons_zero, List.set_cons_succ, i64_w, i32_w]
          rfl
        refine pure_ (i := 5) (N := some 28) (v := ?_) (a' := ?_) #[true, true, true, true, false, true, false, false, false, false, false, false, false, false, false, false, false] rfl rfl (any_of HT_.out (by kernel_rfl)) (fun _ _ _ h => h) (Or.inl ⟨by rfl, ?_⟩) ?_ ?_
        rotate_left
        · intro w'
          go_simp
          with_reducible rfl
        rotate_left
        · simp only [Act.put, List.setIfInBounds_toArray, List.set_cons_zero, List.set_cons_succ, i64_w, i32_w]
          rfl
        refine pure_ (i := 6) (N := some 29) (v := ?_) (a' := ?_) #[true, true, true, true, false, true, true, false, false, false, false, false, false, false, false, false, false] rfl rfl (any_of HT_.out (by kernel_rfl)) (fun _ _ _ h => h) (Or.inl ⟨by rfl, ?_⟩) ?_ ?_
        rotate_left
        · intro w'
          go_simp
          with_reducible rfl
        rotate_left
        · simp only [Act.put, List.setIfInBounds_toArray, List.set_cons_zero, List.set_cons_succ, i64_w, i32_w]
          rfl
        refine pure_ (i := 7) (N := some 30) (v := ?_) (a' := ?_) #[true, true, true, true, false, true, true, true, false, false, false, false, false, false, false, false, false] rfl rfl (any_of HT_.out (by kernel_rfl)) (fun _ _ _ h => h) (Or.inl ⟨by rfl, ?_⟩) ?_ ?_
        rotate_left
        · intro w'
          go_simp
          with_reducible rfl
        rotate_left
        · simp only [Act.put, List.setIfInBounds_toArray, List.set_cons_zero, List.set_cons_succ, i64_w, i32_w]
          rfl
        refine take_ (i := 4) (N := some 27) (v := ?_) (a' := ?_) #[true, true, true, true, true, true, true, true, false, false, false, false, false, false, false, false, false] rfl rfl (take_ofW HT_.out HW_.out (by kernel_rfl)) (fun _ _ _ h => h) (Or.inl ⟨by rfl, ?_⟩) hHeld ?_ ?_
        rotate_left
        · rintro w' ⟨s0, s1, s2, s3, s4⟩
          go_simp
          with_reducible rfl
        rotate_left
        · simp only [Act.put, List.setIfInBounds_toArray, List.set_cons_zero, List.set_cons_succ, i64_w, i32_w]
          rfl
        refine take_ (i := 8) (N := some 31) (v := ?_) (a' := ?_) #[true, true, true, true, true, true, true, true, true, false, false, false, false, false, false, false, false] rfl rfl (take_ofW HT_.out HW_.out (by kernel_rfl)) (fun _ _ _ h => h) (Or.inl ⟨by rfl, ?_⟩) hHeld ?_ ?_
        rotate_left
        · rintro w' ⟨s0, s1, s2, s3, s4⟩
          go_simp
          with_reducible rfl
        rotate_left
        · simp only [Act.put, List.setIfInBounds_toArray, List.set_cons_zero, List.set_cons_succ, i64_w, i32_w]
          rfl
        refine one_ (i := 9) (N := some 32) #[true, true, true, true, true, true, true, true, true, true, false, false, false, false, false, false, false] rfl rfl (one_of HT_.out (by kernel_rfl)) (by decide) (fun K hK => ?_)
        refine goes_ Tryd.func114 (by kernel_rfl) rfl #[.int .u64 (IntKind.u64.wrap (a1 - s0_0)), .int .u64 s0_2, .agg #[.int .u64 s0_3, .int .u64 s0_4]] (by rfl) rfl rfl (by (try simp only [List.map_toArray, List.map_cons, List.map_nil]); first | done | rfl | (simp only [List.length_drop, List.length_take]; rfl)) ?_
        with_reducible refine (tikref1_Scale.calls k (IntKind.u64.wrap (a1 - s0_0)) s0_2 s0_3 s0_4 t101 t102 t103 _ A4.out).mono ?_
        rintro e w13 ⟨rfl, hb⟩
        refine ⟨_, rfl, ?_⟩
        have n0_ := Aside0.mk (IsS43.below (by repeat (first | (with_reducible first | exact HI0.out | apply IsS43.alloc | apply IsS43.drewN | apply IsS43.drew | apply IsS43.set_2 | apply IsS43.set_3 | apply IsS43.set_4 | apply IsS43.set_5 | apply IsS43.set_6) | exact HI0.out)) hb)
        have n1_ := Aside0.mk (KeepBut.trans (by repeat (first | (with_reducible first | exact HK.out | apply KeepBut.set_ | apply keep_drewN | apply keep_drew | apply keep_alloc) | exact HK.out)) (KeepBut.of_below hb g none) (.inl rfl))
        have n2_ := Aside0.mk (below_step (by repeat (first | (with_reducible first | exact HB.out | apply below_alloc | apply pw_below_drewN | apply below_drew1 | refine below_set ?_ (IsS43.ge HI0.out)) | exact HB.out)) hb)
        clear HI0
        clear HK
        clear HB
        have HI0 := n0_
        have HK := n1_
        have HB := n2_
        clear n0_ n1_ n2_
        (try clear hb)
        (try clear hb2)
        (try clear hk)
        (try clear hi)
        refine hK.out _ _ ⟨(blk_cell (Aside0.mk HI0.out.1).out 2).trans rfl, (blk_cell (Aside0.mk HI0.out.1).out 3).trans rfl, (blk_cell (Aside0.mk HI0.out.1).out 4).trans rfl, (blk_cell (Aside0.mk HI0.out.1).out 5).trans rfl, (blk_cell (Aside0.mk HI0.out.1).out 6).trans rfl⟩ (fun hHeld => ?_)
        clear hK K
        refine norm_ (a' := ?_) ?_ ?_
        rotate_left
        · show Act.put _ (some 32) _ = _
          simp only [Act.put, List.setIfInBounds_toArray, List.set_cons_zero, List.set_cons_succ, i64_w, i32_w]
          rfl
        refine pure_ (i := 10) (N := some 22) (v := ?_) (a' := ?_) #[true, true, true, true, true, true, true, true, true, true, true, false, false, false, false, false, false] rfl rfl (any_of HT_.out (by kernel_rfl)) (fun _ _ _ h => h) (Or.inl ⟨by rfl, ?_⟩) ?_ ?_
        rotate_left
        · intro w'
          go_simp
          with_reducible rfl
        rotate_left
        · simp only [Act.put, List.setIfInBounds_toArray, List.set_cons_zero, List.set_cons_succ, i64_w, i32_w]
          rfl
        refine pure_ (i := 11) (N := some 33) (v := ?_) (a' := ?_) #[true, true, true, true, true, true, true, true, true, true, true, true, false, false, false, false, false] rfl rfl (any_of HT_.out (by kernel_rfl)) (fun _ _ _ h => h) (Or.inl ⟨by rfl, ?_⟩) ?_ ?_
        rotate_left
        · intro w'
          go_simp
          with_reducible rfl
        rotate_left
        · simp only [Act.put, List.setIfInBounds_toArray, List.set_cons_zero, List.set_cons_succ, i64_w, i32_w]
          rfl
        refine pure_ (i := 12) (N := some 34) (v := ?_) (a' := ?_) #[true, true, true, true, true, true, true, true, true, true, true, true, true, false, false, false, false] rfl rfl (any_of HT_.out (by kernel_rfl)) (fun _ _ _ h => h) (Or.inl ⟨by rfl, ?_⟩) ?_ ?_
        rotate_left
        · intro w'
          go_simp
          with_reducible rfl
        rotate_left
        · simp only [Act.put, List.setIfInBounds_toArray, List.set_cons_zero, List.set_cons_succ, i64_w, i32_w]
          rfl
        refine pure_ (i := 13) (N := some 35) (v := ?_) (a' := ?_) #[true, true, true, true, true, true, true, true, true, true, true, true, true, true, false, false, false] rfl rfl (any_of HT_.out (by kernel_rfl)) (fun _ _ _ h => h) (Or.inl ⟨by rfl, ?_⟩) ?_ ?_
        rotate_left
        · intro w'
          go_simp
          with_reducible rfl
        rotate_left
        · simp only [Act.put, List.setIfInBounds_toArray, List.set_cons_zero, List.set_cons_succ, i64_w, i32_w]
          rfl
        refine pure_ (i := 14) (N := some 7) (v := ?_) (a' := ?_) #[true, true, true, true, true, true, true, true, true, true, true, true, true, true, true, false, false] rfl rfl (any_of HT_.out (by kernel_rfl)) (fun _ _ _ h => h) (Or.inl ⟨by rfl, ?_⟩) ?_ ?_
        rotate_left
        · intro w'
          go_simp
          with_reducible rfl
        rotate_left
        · simp only [Act.put, List.setIfInBounds_toArray, List.set_cons_zero, List.set_cons_succ, i64_w, i32_w]
          rfl
        refine pure_ (i := 15) (N := some 8) (v := ?_) (a' := ?_) #[true, true, true, true, true, true, true, true, true, true, true, true, true, true, true, true, false] rfl rfl (any_of HT_.out (by kernel_rfl)) (fun _ _ _ h => h) (Or.inl ⟨by rfl, ?_⟩) ?_ ?_
        rotate_left
        · intro w'
          go_simp
          with_reducible rfl
        rotate_left
        · simp only [Act.put, List.setIfInBounds_toArray, List.set_cons_zero, List.set_cons_succ, i64_w, i32_w]
          rfl
        refine pure_ (i := 16) (N := some 9) (v := ?_) (a' := ?_) #[true, true, true, true, true, true, true, true, true, true, true, true, true, true, true, true, true] rfl rfl (any_of HT_.out (by kernel_rfl)) (fun _ _ _ h => h) (Or.inl ⟨by rfl, ?_⟩) ?_ ?_
        rotate_left
        · intro w'
          go_simp
          with_reducible rfl
        rotate_left
        · simp only [Act.put, List.setIfInBounds_toArray, List.set_cons_zero, List.set_cons_succ, i64_w, i32_w]
          rfl
        refine done_ (done_of HT_.out (by kernel_rfl)) ?_
        obtain ⟨HGz14, hgz14⟩ := HI0.out
        have hcz14_0 := cellS43_2 HGz14
        have hcz14_1 := cellS43_3 HGz14
        have hcz14_2 := cellS43_4 HGz14
        have hcz14_3 := cellS43_5 HGz14
        have hcz14_4 := cellS43_6 HGz14
        have hfz14_0 := blk_frozen HGz14 2
        have hfz14_1 := blk_frozen HGz14 3
        have hfz14_2 := blk_frozen HGz14 4
        have hfz14_3 := blk_frozen HGz14 5
        have hfz14_4 := blk_frozen HGz14 6
        clear HGz14 hgz14
        try go_wp2
        go_ret2
        exact ⟨by first | rfl | (simp [errW_none, errW_some] <;> rfl) | (simp [*, errW_none, errW_some] <;> rfl), by repeat (first | (with_reducible first | exact HI0.out | apply IsS43.alloc | apply IsS43.drewN | apply IsS43.drew | apply IsS43.set_2 | apply IsS43.set_3 | apply IsS43.set_4 | apply IsS43.set_5 | apply IsS43.set_6) | exact HI0.out), by repeat (first | (with_reducible first | exact HB.out | apply below_alloc | apply pw_below_drewN | apply below_drew1 | refine below_set ?_ (IsS43.ge HI0.out)) | exact HB.out), by repeat (first | (with_reducible first | exact HK.out | apply KeepBut.set_ | apply keep_drewN | apply keep_drew | apply keep_alloc) | exact HK.out)⟩
    · rw [if_neg c5] at H
      have c5b0 : (t103 == 0) = false := beq_eq_false_iff_ne.mpr c5
      have c5b1 : (t103 != 0) = true := bne_iff_ne.mpr c5
      simp only [Option.some.injEq, Prod.mk.injEq] at H
      obtain ⟨rfl, rfl, rfl, rfl, rfl, rfl, rfl⟩ := H
      obtain ⟨HGz15, hgz15⟩ := HI0.out
      have hcz15_0 := cellS43_2 HGz15
      have hcz15_1 := cellS43_3 HGz15
      have hcz15_2 := cellS43_4 HGz15
      have hcz15_3 := cellS43_5 HGz15
      have hcz15_4 := cellS43_6 HGz15
      have hfz15_0 := blk_frozen HGz15 2
      have hfz15_1 := blk_frozen HGz15 3
      have hfz15_2 := blk_frozen HGz15 4
      have hfz15_3 := blk_frozen HGz15 5
      have hfz15_4 := blk_frozen HGz15 6
      clear HGz15 hgz15
      go_enter Tryd.func110, Tryd.ntmps110
      try go_wp2
      have n0_ := Aside0.mk (IsS43.drew HI0.out)
      have n1_ := Aside0.mk (keep_drew HK.out)
      have n2_ := Aside0.mk (below_drew1 HB.out)
      clear HI0
      clear HK
      clear HB
      have HI0 := n0_
      have HK := n1_
      have HB := n2_
      clear n0_ n1_ n2_
      refine start_ (n := 17) (S := fun w' => w'.cell? ⟨g, 2, none⟩ = some (.int .u64 s0_0) ∧ w'.cell? ⟨g, 3, none⟩ = some (.int .u64 s0_1) ∧ w'.cell? ⟨g, 4, none⟩ = some (.int .u64 s0_2) ∧ w'.cell? ⟨g, 5, none⟩ = some (.int .u64 s0_3) ∧ w'.cell? ⟨g, 6, none⟩ = some (.int .u64 s0_4)) (ds := []) #[false, false, false, false, false, false, false, false, false, false, false, false, false, false, false, false, false] (by kernel_rfl) rfl rfl ⟨(blk_cell (Aside0.mk HI0.out.1).out 2).trans rfl, (blk_cell (Aside0.mk HI0.out.1).out 3).trans rfl, (blk_cell (Aside0.mk HI0.out.1).out 4).trans rfl, (blk_cell (Aside0.mk HI0.out.1).out 5).trans rfl, (blk_cell (Aside0.mk HI0.out.1).out 6).trans rfl⟩ (fun hHeld => ?_); refine with_tabW tikref22_Clock_at.tab4 tikref22_Clock_at.bits4 (fun HT_ HW_ => ?_)
      generalize w.drew = w16 at HI0 HK HB hHeld ⊢
      refine pure_ (i := 0) (N := some 23) (v := ?_) (a' := ?_) #[true, false, false, false, false, false, false, false, false, false, false, false, false, false, false, false, false] rfl rfl (any_of HT_.out (by kernel_rfl)) (fun _ _ _ h => h) (Or.inl ⟨by rfl, ?_⟩) ?_ ?_
      rotate_left
      · intro w'
        go_simp
        with_reducible rfl
      rotate_left
      · simp only [Act.put, List.setIfInBounds_toArray, List.set_cons_zero, List.set_cons_succ, i64_w, i32_w]
        rfl
      refine pure_ (i := 1) (N := some 24) (v := ?_) (a' := ?_) #[true, true, false, false, false, false, false, false, false, false, false, false, false, false, false, false, false] rfl rfl (any_of HT_.out (by kernel_rfl)) (fun _ _ _ h => h) (Or.inl ⟨by rfl, ?_⟩) ?_ ?_
      rotate_left
      · intro w'
        go_simp
        with_reducible rfl
      rotate_left
      · simp only [Act.put, List.setIfInBounds_toArray, List.set_cons_zero, List.set_cons_succ, i64_w, i32_w]
        rfl
      refine pure_ (i := 2) (N := some 25) (v := ?_) (a' := ?_) #[true, true, true, false, false, false, false, false, false, false, false, false, false, false, false, false, false] rfl rfl (any_of HT_.out (by kernel_rfl)) (fun _ _ _ h => h) (Or.inl ⟨by rfl, ?_⟩) ?_ ?_
      rotate_left
      · intro w'
        go_simp
        with_reducible rfl
      rotate_left
      · simp only [Act.put, List.setIfInBounds_toArray, List.set_cons_zero, List.set_cons_succ, i64_w, i32_w]
        rfl
      refine pure_ (i := 3) (N := some 26) (v := ?_) (a' := ?_) #[true, true, true, true, false, false, false, false, false, false, false, false, false, false, false, false, false] rfl rfl (any_of HT_.out (by kernel_rfl)) (fun _ _ _ h => h) (Or.inl ⟨by rfl, ?_⟩) ?_ ?_
      rotate_left
      · intro w'
        go_simp
        with_reducible rfl
      rotate_left
      · simp only [Act.put, List.setIfInBounds_toArray, List.set_cons_zero, List.set_cons_succ, i64_w, i32_w]
        rfl
      refine pure_ (i := 5) (N := some 28) (v := ?_) (a' := ?_) #[true, true, true, true, false, true, false, false, false, false, false, false, false, false, false, false, false] rfl rfl (any_of HT_.out (by kernel_rfl)) (fun _ _ _ h => h) (Or.inl ⟨by rfl, ?_⟩) ?_ ?_
      rotate_left
      · intro w'
        go_simp
        with_reducible rfl
      rotate_left
      · simp only [Act.put, List.setIfInBounds_toArray, List.set_cons_zero, List.set_cons_succ, i64_w, i32_w]
        rfl
      refine pure_ (i := 6) (N := some 29) (v := ?_) (a' := ?_) #[true, true, true, true, false, true, true, false, false, false, false, false, false, false, false, false, false] rfl rfl (any_of HT_.out (by kernel_rfl)) (fun _ _ _ h => h) (Or.inl ⟨by rfl, ?_⟩) ?_ ?_
      rotate_left
      · intro w'
        go_simp
        with_reducible rfl
      rotate_left
      · simp only [Act.put, List.setIfInBounds_toArray, List.set_cons_zero, List.set_cons_succ, i64_w, i32_w]
        rfl
      refine pure_ (i := 7) (N := some 30) (v := ?_) (a' := ?_) #[true, true, true, true, false, true, true, true, false, false, false, false, false, false, false, false, false] rfl rfl (any_of HT_.out (by kernel_rfl)) (fun _ _ _ h => h) (Or.inl ⟨by rfl, ?_⟩) ?_ ?_
      rotate_left
      · intro w'
        go_simp
        with_reducible rfl
      rotate_left
      · simp only [Act.put, List.setIfInBounds_toArray, List.set_cons_zero, List.set_cons_succ, i64_w, i32_w]
        rfl
      refine take_ (i := 4) (N := some 27) (v := ?_) (a' := ?_) #[true, true, true, true, true, true, true, true, false, false, false, false, false, false, false, false, false] rfl rfl (take_ofW HT_.out HW_.out (by kernel_rfl)) (fun _ _ _ h => h) (Or.inl ⟨by rfl, ?_⟩) hHeld ?_ ?_
      rotate_left
      · rintro w' ⟨s0, s1, s2, s3, s4⟩
        go_simp
        with_reducible rfl
      rotate_left
      · simp only [Act.put, List.setIfInBounds_toArray, List.set_cons_zero, List.set_cons_succ, i64_w, i32_w]
        rfl
      refine take_ (i := 8) (N := some 31) (v := ?_) (a' := ?_) #[true, true, true, true, true, true, true, true, true, false, false, false, false, false, false, false, false] rfl rfl (take_ofW HT_.out HW_.out (by kernel_rfl)) (fun _ _ _ h => h) (Or.inl ⟨by rfl, ?_⟩) hHeld ?_ ?_
      rotate_left
      · rintro w' ⟨s0, s1, s2, s3, s4⟩
        go_simp
        with_reducible rfl
      rotate_left
      · simp only [Act.put, List.setIfInBounds_toArray, List.set_cons_zero, List.set_cons_succ, i64_w, i32_w]
        rfl
      refine one_ (i := 9) (N := some 32) #[true, true, true, true, true, true, true, true, true, true, false, false, false, false, false, false, false] rfl rfl (one_of HT_.out (by kernel_rfl)) (by decide) (fun K hK => ?_)
      refine goes_ Tryd.func114 (by kernel_rfl) rfl #[.int .u64 (IntKind.u64.wrap (a1 - s0_0)), .int .u64 s0_2, .agg #[.int .u64 s0_3, .int .u64 s0_4]] (by rfl) rfl rfl (by (try simp only [List.map_toArray, List.map_cons, List.map_nil]); first | done | rfl | (simp only [List.length_drop, List.length_take]; rfl)) ?_
      with_reducible refine (tikref1_Scale.calls k (IntKind.u64.wrap (a1 - s0_0)) s0_2 s0_3 s0_4 t101 t102 t103 _ A4.out).mono ?_
      rintro e w17 ⟨rfl, hb⟩
      refine ⟨_, rfl, ?_⟩
      have n0_ := Aside0.mk (IsS43.below (by repeat (first | (with_reducible first | exact HI0.out | apply IsS43.alloc | apply IsS43.drewN | apply IsS43.drew | apply IsS43.set_2 | apply IsS43.set_3 | apply IsS43.set_4 | apply IsS43.set_5 | apply IsS43.set_6) | exact HI0.out)) hb)
      have n1_ := Aside0.mk (KeepBut.trans (by repeat (first | (with_reducible first | exact HK.out | apply KeepBut.set_ | apply keep_drewN | apply keep_drew | apply keep_alloc) | exact HK.out)) (KeepBut.of_below hb g none) (.inl rfl))
      have n2_ := Aside0.mk (below_step (by repeat (first | (with_reducible first | exact HB.out | apply below_alloc | apply pw_below_drewN | apply below_drew1 | refine below_set ?_ (IsS43.ge HI0.out)) | exact HB.out)) hb)
      clear HI0
      clear HK
      clear HB
      have HI0 := n0_
      have HK := n1_
      have HB := n2_
      clear n0_ n1_ n2_
      (try clear hb)
      (try clear hb2)
      (try clear hk)
      (try clear hi)
      refine hK.out _ _ ⟨(blk_cell (Aside0.mk HI0.out.1).out 2).trans rfl, (blk_cell (Aside0.mk HI0.out.1).out 3).trans rfl, (blk_cell (Aside0.mk HI0.out.1).out 4).trans rfl, (blk_cell (Aside0.mk HI0.out.1).out 5).trans rfl, (blk_cell (Aside0.mk HI0.out.1).out 6).trans rfl⟩ (fun hHeld => ?_)
      clear hK K
      refine norm_ (a' := ?_) ?_ ?_
      rotate_left
      · show Act.put _ (some 32) _ = _
        simp only [Act.put, List.setIfInBounds_toArray, List.set_cons_zero, List.set_cons_succ, i64_w, i32_w]
        rfl
      refine pure_ (i := 10) (N := some 22) (v := ?_) (a' := ?_) #[true, true, true, true, true, true, true, true, true, true, true, false, false, false, false, false, false] rfl rfl (any_of HT_.out (by kernel_rfl)) (fun _ _ _ h => h) (Or.inl ⟨by rfl, ?_⟩) ?_ ?_
      rotate_left
      · intro w'
        go_simp
        with_reducible rfl
      rotate_left
      · simp only [Act.put, List.setIfInBounds_toArray, List.set_cons_zero, List.set_cons_succ, i64_w, i32_w]
        rfl
      refine pure_ (i := 11) (N := some 33) (v := ?_) (a' := ?_) #[true, true, true, true, true, true, true, true, true, true, true, true, false, false, false, false, false] rfl rfl (any_of HT_.out (by kernel_rfl)) (fun _ _ _ h => h) (Or.inl ⟨by rfl, ?_⟩) ?_ ?_
      rotate_left
      · intro w'
        go_simp
        with_reducible rfl
      rotate_left
      · simp only [Act.put, List.setIfInBounds_toArray, List.set_cons_zero, List.set_cons_succ, i64_w, i32_w]
        rfl
      refine pure_ (i := 12) (N := some 34) (v := ?_) (a' := ?_) #[true, true, true, true, true, true, true, true, true, true, true, true, true, false, false, false, false] rfl rfl (any_of HT_.out (by kernel_rfl)) (fun _ _ _ h => h) (Or.inl ⟨by rfl, ?_⟩) ?_ ?_
      rotate_left
      · intro w'
        go_simp
        with_reducible rfl
      rotate_left
      · simp only [Act.put, List.setIfInBounds_toArray, List.set_cons_zero, List.set_cons_succ, i64_w, i32_w]
        rfl
      refine pure_ (i := 13) (N := some 35) (v := ?_) (a' := ?_) #[true, true, true, true, true, true, true, true, true, true, true, true, true, true, false, false, false] rfl rfl (any_of HT_.out (by kernel_rfl)) (fun _ _ _ h => h) (Or.inl ⟨by rfl, ?_⟩) ?_ ?_
      rotate_left
      · intro w'
        go_simp
        with_reducible rfl
      rotate_left
      · simp only [Act.put, List.setIfInBounds_toArray, List.set_cons_zero, List.set_cons_succ, i64_w, i32_w]
        rfl
      refine pure_ (i := 14) (N := some 7) (v := ?_) (a' := ?_) #[true, true, true, true, true, true, true, true, true, true, true, true, true, true, true, false, false] rfl rfl (any_of HT_.out (by kernel_rfl)) (fun _ _ _ h => h) (Or.inl ⟨by rfl, ?_⟩) ?_ ?_
      rotate_left
      · intro w'
        go_simp
        with_reducible rfl
      rotate_left
      · simp only [Act.put, List.setIfInBounds_toArray, List.set_cons_zero, List.set_cons_succ, i64_w, i32_w]
        rfl
      refine pure_ (i := 15) (N := some 8) (v := ?_) (a' := ?_) #[true, true, true, true, true, true, true, true, true, true, true, true, true, true, true, true, false] rfl rfl (any_of HT_.out (by kernel_rfl)) (fun _ _ _ h => h) (Or.inl ⟨by rfl, ?_⟩) ?_ ?_
      rotate_left
      · intro w'
        go_simp
        with_reducible rfl
      rotate_left
      · simp only [Act.put, List.setIfInBounds_toArray, List.set_cons_zero, List.set_cons_succ, i64_w, i32_w]
        rfl
      refine pure_ (i := 16) (N := some 9) (v := ?_) (a' := ?_) #[true, true, true, true, true, true, true, true, true, true, true, true, true, true, true, true, true] rfl rfl (any_of HT_.out (by kernel_rfl)) (fun _ _ _ h => h) (Or.inl ⟨by rfl, ?_⟩) ?_ ?_
      rotate_left
      · intro w'
        go_simp
        with_reducible rfl
      rotate_left
      · simp only [Act.put, List.setIfInBounds_toArray, List.set_cons_zero, List.set_cons_succ, i64_w, i32_w]
        rfl
      refine done_ (done_of HT_.out (by kernel_rfl)) ?_
      try go_wp2
      go_ret2
      exact ⟨by first | rfl | (simp [errW_none, errW_some] <;> rfl) | (simp [*, errW_none, errW_some] <;> rfl), by repeat (first | (with_reducible first | exact HI0.out | apply IsS43.alloc | apply IsS43.drewN | apply IsS43.drew | apply IsS43.set_2 | apply IsS43.set_3 | apply IsS43.set_4 | apply IsS43.set_5 | apply IsS43.set_6) | exact HI0.out), by repeat (first | (with_reducible first | exact HB.out | apply below_alloc | apply pw_below_drewN | apply below_drew1 | refine below_set ?_ (IsS43.ge HI0.out)) | exact HB.out), by repeat (first | (with_reducible first | exact HK.out | apply KeepBut.set_ | apply keep_drewN | apply keep_drew | apply keep_alloc) | exact HK.out)⟩
  · rw [if_neg c3] at H
    have c3b0 : decide (s0_0 < a1) = false := decide_eq_false c3
    clear c3
    replace H := Option.bind_eq_some_iff.mp H
    obtain ⟨⟨t104, t105, t106⟩, A180, H⟩ := H
    replace H : (if t106 = 0 then (if t104 ≥ (IntKind.u64.wrap (4611686018427387904 - s0_1)) then (some (4611686018427387904, 0, s0_0, s0_1, s0_2, s0_3, s0_4)) else (some (IntKind.u64.wrap (s0_1 + t104), t105, s0_0, s0_1, s0_2, s0_3, s0_4))) else (some (4611686018427387904, 0, s0_0, s0_1, s0_2, s0_3, s0_4))) = some (r1, r2, r3, r4, r5, r6, r7) := H
    have A18 := Aside0.mk A180
    clear A180
    by_cases c19 : t106 = 0
    · rw [if_pos c19] at H
      have c19b0 : (t106 == 0) = true := beq_iff_eq.mpr c19
      have c19b1 : (t106 != 0) = false := bne_eq_false_iff_eq.mpr c19
      clear c19
      by_cases c20 : t104 ≥ (IntKind.u64.wrap (4611686018427387904 - s0_1))
      · rw [if_pos c20] at H
        have c20b0 : decide ((IntKind.u64.wrap (4611686018427387904 - s0_1)) ≤ t104) = true := decide_eq_true c20
        clear c20
        simp only [Option.some.injEq, Prod.mk.injEq] at H
        obtain ⟨rfl, rfl, rfl, rfl, rfl, rfl, rfl⟩ := H
        obtain ⟨HGz21, hgz21⟩ := HI0.out
        have hcz21_0 := cellS43_2 HGz21
        have hcz21_1 := cellS43_3 HGz21
        have hcz21_2 := cellS43_4 HGz21
        have hcz21_3 := cellS43_5 HGz21
        have hcz21_4 := cellS43_6 HGz21
        have hfz21_0 := blk_frozen HGz21 2
        have hfz21_1 := blk_frozen HGz21 3
        have hfz21_2 := blk_frozen HGz21 4
        have hfz21_3 := blk_frozen HGz21 5
        have hfz21_4 := blk_frozen HGz21 6
        clear HGz21 hgz21
        go_enter Tryd.func110, Tryd.ntmps110
        try go_wp2
        have n0_ := Aside0.mk (IsS43.drew HI0.out)
        have n1_ := Aside0.mk (keep_drew HK.out)
        have n2_ := Aside0.mk (below_drew1 HB.out)
        clear HI0
        clear HK
        clear HB
        have HI0 := n0_
        have HK := n1_
        have HB := n2_
        clear n0_ n1_ n2_
        refine start_ (n := 17) (S := fun w' => w'.cell? ⟨g, 2, none⟩ = some (.int .u64 s0_0) ∧ w'.cell? ⟨g, 3, none⟩ = some (.int .u64 s0_1) ∧ w'.cell? ⟨g, 4, none⟩ = some (.int .u64 s0_2) ∧ w'.cell? ⟨g, 5, none⟩ = some (.int .u64 s0_3) ∧ w'.cell? ⟨g, 6, none⟩ = some (.int .u64 s0_4)) (ds := []) #[false, false, false, false, false, false, false, false, false, false, false, false, false, false, false, false, false] (by kernel_rfl) rfl rfl ⟨(blk_cell (Aside0.mk HI0.out.1).out 2).trans rfl, (blk_cell (Aside0.mk HI0.out.1).out 3).trans rfl, (blk_cell (Aside0.mk HI0.out.1).out 4).trans rfl, (blk_cell (Aside0.mk HI0.out.1).out 5).trans rfl, (blk_cell (Aside0.mk HI0.out.1).out 6).trans rfl⟩ (fun hHeld => ?_); refine with_tabW tikref22_Clock_at.tab4 tikref22_Clock_at.bits4 (fun HT_ HW_ => ?_)
        generalize w.drew = w22 at HI0 HK HB hHeld ⊢
        refine pure_ (i := 0) (N := some 23) (v := ?_) (a' := ?_) #[true, false, false, false, false, false, false, false, false, false, false, false, false, false, false, false, false] rfl rfl (any_of HT_.out (by kernel_rfl)) (fun _ _ _ h => h) (Or.inl ⟨by rfl, ?_⟩) ?_ ?_
        rotate_left
        · intro w'
          go_simp
          with_reducible rfl
        rotate_left
        · simp only [Act.put, List.setIfInBounds_toArray, List.set_cons_zero, List.set_cons_succ, i64_w, i32_w]
          rfl
        refine pure_ (i := 1) (N := some 24) (v := ?_) (a' := ?_) #[true, true, false, false, false, false, false, false, false, false, false, false, false, false, false, false, false] rfl rfl (any_of HT_.out (by kernel_rfl)) (fun _ _ _ h => h) (Or.inl ⟨by rfl, ?_⟩) ?_ ?_
        rotate_left
        · intro w'
          go_simp
          with_reducible rfl
        rotate_left
        · simp only [Act.put, List.setIfInBounds_toArray, List.set_cons_zero, List.set_cons_succ, i64_w, i32_w]
          rfl
        refine pure_ (i := 2) (N := some 25) (v := ?_) (a' := ?_) #[true, true, true, false, false, false, false, false, false, false, false, false, false, false, false, false, false] rfl rfl (any_of HT_.out (by kernel_rfl)) (fun _ _ _ h => h) (Or.inl ⟨by rfl, ?_⟩) ?_ ?_
        rotate_left
        · intro w'
          go_simp
          with_reducible rfl
        rotate_left
        · simp only [Act.put, List.setIfInBounds_toArray, List.set_cons_zero, List.set_cons_succ, i64_w, i32_w]
          rfl
        refine pure_ (i := 3) (N := some 26) (v := ?_) (a' := ?_) #[true, true, true, true, false, false, false, false, false, false, false, false, false, false, false, false, false] rfl rfl (any_of HT_.out (by kernel_rfl)) (fun _ _ _ h => h) (Or.inl ⟨by rfl, ?_⟩) ?_ ?_
        rotate_left
        · intro w'
          go_simp
          with_reducible rfl
        rotate_left
        · simp only [Act.put, List.setIfInBounds_toArray, List.set_cons_zero, List.set_cons_succ, i64_w, i32_w]
          rfl
        refine pure_ (i := 5) (N := some 28) (v := ?_) (a' := ?_) #[true, true, true, true, false, true, false, false, false, false, false, false, false, false, false, false, false] rfl rfl (any_of HT_.out (by kernel_rfl)) (fun _ _ _ h => h) (Or.inl ⟨by rfl, ?_⟩) ?_ ?_
        rotate_left
        · intro w'
          go_simp
          with_reducible rfl
        rotate_left
        · simp only [Act.put, List.setIfInBounds_toArray, List.set_cons_zero, List.set_cons_succ, i64_w, i32_w]
          rfl
        refine pure_ (i := 6) (N := some 29) (v := ?_) (a' := ?_) #[true, true, true, true, false, true, true, false, false, false, false, false, false, false, false, false, false] rfl rfl (any_of HT_.out (by kernel_rfl)) (fun _ _ _ h => h) (Or.inl ⟨by rfl, ?_⟩) ?_ ?_
        rotate_left
        · intro w'
          go_simp
          with_reducible rfl
        rotate_left
        · simp only [Act.put, List.setIfInBounds_toArray, List.set_cons_zero, List.set_cons_succ, i64_w, i32_w]
          rfl
        refine pure_ (i := 7) (N := some 30) (v := ?_) (a' := ?_) #[true, true, true, true, false, true, true, true, false, false, false, false, false, false, false, false, false] rfl rfl (any_of HT_.out (by kernel_rfl)) (fun _ _ _ h => h) (Or.inl ⟨by rfl, ?_⟩) ?_ ?_
        rotate_left
        · intro w'
          go_simp
          with_reducible rfl
        rotate_left
        · simp only [Act.put, List.setIfInBounds_toArray, List.set_cons_zero, List.set_cons_succ, i64_w, i32_w]
          rfl
        refine take_ (i := 4) (N := some 27) (v := ?_) (a' := ?_) #[true, true, true, true, true, true, true, true, false, false, false, false, false, false, false, false, false] rfl rfl (take_ofW HT_.out HW_.out (by kernel_rfl)) (fun _ _ _ h => h) (Or.inl ⟨by rfl, ?_⟩) hHeld ?_ ?_
        rotate_left
        · rintro w' ⟨s0, s1, s2, s3, s4⟩
          go_simp
          with_reducible rfl
        rotate_left
        · simp only [Act.put, List.setIfInBounds_toArray, List.set_cons_zero, List.set_cons_succ, i64_w, i32_w]
          rfl
        refine take_ (i := 8) (N := some 31) (v := ?_) (a' := ?_) #[true, true, true, true, true, true, true, true, true, false, false, false, false, false, false, false, false] rfl rfl (take_ofW HT_.out HW_.out (by kernel_rfl)) (fun _ _ _ h => h) (Or.inl ⟨by rfl, ?_⟩) hHeld ?_ ?_
        rotate_left
        · rintro w' ⟨s0, s1, s2, s3, s4⟩
          go_simp
          with_reducible rfl
        rotate_left
        · simp only [Act.put, List.setIfInBounds_toArray, List.set_cons_zero, List.set_cons_succ, i64_w, i32_w]
          rfl
        refine one_ (i := 9) (N := some 32) #[true, true, true, true, true, true, true, true, true, true, false, false, false, false, false, false, false] rfl rfl (one_of HT_.out (by kernel_rfl)) (by decide) (fun K hK => ?_)
        refine goes_ Tryd.func114 (by kernel_rfl) rfl #[.int .u64 0, .int .u64 s0_2, .agg #[.int .u64 s0_3, .int .u64 s0_4]] (by rfl) rfl rfl (by (try simp only [List.map_toArray, List.map_cons, List.map_nil]); first | done | rfl | (simp only [List.length_drop, List.length_take]; rfl)) ?_
        with_reducible refine (tikref1_Scale.calls k 0 s0_2 s0_3 s0_4 t104 t105 t106 _ A18.out).mono ?_
        rintro e w23 ⟨rfl, hb⟩
        refine ⟨_, rfl, ?_⟩
        have n0_ := Aside0.mk (IsS43.below (by repeat (first | (with_reducible first | exact HI0.out | apply IsS43.alloc | apply IsS43.drewN | apply IsS43.drew | apply IsS43.set_2 | apply IsS43.set_3 | apply IsS43.set_4 | apply IsS43.set_5 | apply IsS43.set_6) | exact HI0.out)) hb)
        have n1_ := Aside0.mk (KeepBut.trans (by repeat (first | (with_reducible first | exact HK.out | apply KeepBut.set_ | apply keep_drewN | apply keep_drew | apply keep_alloc) | exact HK.out)) (KeepBut.of_below hb g none) (.inl rfl))
        have n2_ := Aside0.mk (below_step (by repeat (first | (with_reducible first | exact HB.out | apply below_alloc | apply pw_below_drewN | apply below_drew1 | refine below_set ?_ (IsS43.ge HI0.out)) | exact HB.out)) hb)
        clear HI0
        clear HK
        clear HB
        have HI0 := n0_
        have HK := n1_
        have HB := n2_
        clear n0_ n1_ n2_
        (try clear hb)
        (try clear hb2)
        (try clear hk)
        (try clear hi)
        refine hK.out _ _ ⟨(blk_cell (Aside0.mk HI0.out.1).out 2).trans rfl, (blk_cell (Aside0.mk HI0.out.1).out 3).trans rfl, (blk_cell (Aside0.mk HI0.out.1).out 4).trans rfl, (blk_cell (Aside0.mk HI0.out.1).out 5).trans rfl, (blk_cell (Aside0.mk HI0.out.1).out 6).trans rfl⟩ (fun hHeld => ?_)
        clear hK K
        refine norm_ (a' := ?_) ?_ ?_
        rotate_left
        · show Act.put _ (some 32) _ = _
          simp only [Act.put, List.setIfInBounds_toArray, List.set_cons_zero, List.set_cons_succ, i64_w, i32_w]
          rfl
        refine pure_ (i := 10) (N := some 22) (v := ?_) (a' := ?_) #[true, true, true, true, true, true, true, true, true, true, true, false, false, false, false, false, false] rfl rfl (any_of HT_.out (by kernel_rfl)) (fun _ _ _ h => h) (Or.inl ⟨by rfl, ?_⟩) ?_ ?_
        rotate_left
        · intro w'
          go_simp
          with_reducible rfl
        rotate_left
        · simp only [Act.put, List.setIfInBounds_toArray, List.set_cons_zero, List.set_cons_succ, i64_w, i32_w]
          rfl
        refine pure_ (i := 11) (N := some 33) (v := ?_) (a' := ?_) #[true, true, true, true, true, true, true, true, true, true, true, true, false, false, false, false, false] rfl rfl (any_of HT_.out (by kernel_rfl)) (fun _ _ _ h => h) (Or.inl ⟨by rfl, ?_⟩) ?_ ?_
        rotate_left
        · intro w'
          go_simp
          with_reducible rfl
        rotate_left
        · simp only [Act.put, List.setIfInBounds_toArray, List.set_cons_zero, List.set_cons_succ, i64_w, i32_w]
          rfl
        refine pure_ (i := 12) (N := some 34) (v := ?_) (a' := ?_) #[true, true, true, true, true, true, true, true, true, true, true, true, true, false, false, false, false] rfl rfl (any_of HT_.out (by kernel_rfl)) (fun _ _ _ h => h) (Or.inl ⟨by rfl, ?_⟩) ?_ ?_
        rotate_left
        · intro w'
          go_simp
          with_reducible rfl
        rotate_left
        · simp only [Act.put, List.setIfInBounds_toArray, List.set_cons_zero, List.set_cons_succ, i64_w, i32_w]
          rfl
        refine pure_ (i := 13) (N := some 35) (v := ?_) (a' := ?_) #[true, true, true, true, true, true, true, true, true, true, true, true, true, true, false, false, false] rfl rfl (any_of HT_.out (by kernel_rfl)) (fun _ _ _ h => h) (Or.inl ⟨by rfl, ?_⟩) ?_ ?_
        rotate_left
        · intro w'
          go_simp
          with_reducible rfl
        rotate_left
        · simp only [Act.put, List.setIfInBounds_toArray, List.set_cons_zero, List.set_cons_succ, i64_w, i32_w]
          rfl
        refine pure_ (i := 14) (N := some 7) (v := ?_) (a' := ?_) #[true, true, true, true, true, true, true, true, true, true, true, true, true, true, true, false, false] rfl rfl (any_of HT_.out (by kernel_rfl)) (fun _ _ _ h => h) (Or.inl ⟨by rfl, ?_⟩) ?_ ?_
        rotate_left
        · intro w'
          go_simp
          with_reducible rfl
        rotate_left
        · simp only [Act.put, List.setIfInBounds_toArray, List.set_cons_zero, List.set_cons_succ, i64_w, i32_w]
          rfl
        refine pure_ (i := 15) (N := some 8) (v := ?_) (a' := ?_) #[true, true, true, true, true, true, true, true, true, true, true, true, true, true, true, true, false] rfl rfl (any_of HT_.out (by kernel_rfl)) (fun _ _ _ h => h) (Or.inl ⟨by rfl, ?_⟩) ?_ ?_
        rotate_left
        · intro w'
          go_simp
          with_reducible rfl
        rotate_left
        · simp only [Act.put, List.setIfInBounds_toArray, List.set_cons_zero, List.set_cons_succ, i64_w, i32_w]
          rfl
        refine pure_ (i := 16) (N := some 9) (v := ?_) (a' := ?_) #[true, true, true, true, true, true, true, true, true, true, true, true, true, true, true, true, true] rfl rfl (any_of HT_.out (by kernel_rfl)) (fun _ _ _ h => h) (Or.inl ⟨by rfl, ?_⟩) ?_ ?_
        rotate_left
        · intro w'
          go_simp
          with_reducible rfl
        rotate_left
        · simp only [Act.put, List.setIfInBounds_toArray, List.set_cons_zero, List.set_cons_succ, i64_w, i32_w]
          rfl
        refine done_ (done_of HT_.out (by kernel_rfl)) ?_
        obtain ⟨HGz24, hgz24⟩ := HI0.out
        have hcz24_0 := cellS43_2 HGz24
        have hcz24_1 := cellS43_3 HGz24
        have hcz24_2 := cellS43_4 HGz24
        have hcz24_3 := cellS43_5 HGz24
        have hcz24_4 := cellS43_6 HGz24
        have hfz24_0 := blk_frozen HGz24 2
        have hfz24_1 := blk_frozen HGz24 3
        have hfz24_2 := blk_frozen HGz24 4
        have hfz24_3 := blk_frozen HGz24 5
        have hfz24_4 := blk_frozen HGz24 6
        clear HGz24 hgz24
        try go_wp2
        go_ret2
        exact ⟨by first | rfl | (simp [errW_none, errW_some] <;> rfl) | (simp [*, errW_none, errW_some] <;> rfl), by repeat (first | (with_reducible first | exact HI0.out | apply IsS43.alloc | apply IsS43.drewN | apply IsS43.drew | apply IsS43.set_2 | apply IsS43.set_3 | apply IsS43.set_4 | apply IsS43.set_5 | apply IsS43.set_6) | exact HI0.out), by repeat (first | (with_reducible first | exact HB.out | apply below_alloc | apply pw_below_drewN | apply below_drew1 | refine below_set ?_ (IsS43.ge HI0.out)) | exact HB.out), by repeat (first | (with_reducible first | exact HK.out | apply KeepBut.set_ | apply keep_drewN | apply keep_drew | apply keep_alloc) | exact HK.out)⟩
      · rw [if_neg c20] at H
        have c20b0 : decide ((IntKind.u64.wrap (4611686018427387904 - s0_1)) ≤ t104) = false := decide_eq_false c20
        clear c20
        simp only [Option.some.injEq, Prod.mk.injEq] at H
        obtain ⟨rfl, rfl, rfl, rfl, rfl, rfl, rfl⟩ := H
        obtain ⟨HGz25, hgz25⟩ := HI0.out
        have hcz25_0 := cellS43_2 HGz25
        have hcz25_1 := cellS43_3 HGz25
        have hcz25_2 := cellS43_4 HGz25
        have hcz25_3 := cellS43_5 HGz25
        have hcz25_4 := cellS43_6 HGz25
        have hfz25_0 := blk_frozen HGz25 2
        have hfz25_1 := blk_frozen HGz25 3
        have hfz25_2 := blk_frozen HGz25 4
        have hfz25_3 := blk_frozen HGz25 5
        have hfz25_4 := blk_frozen HGz25 6
        clear HGz25 hgz25
        go_enter Tryd.func110, Tryd.ntmps110
        try go_wp2
        have n0_ := Aside0.mk (IsS43.drew HI0.out)
        have n1_ := Aside0.mk (keep_drew HK.out)
        have n2_ := Aside0.mk (below_drew1 HB.out)
        clear HI0
        clear HK
        clear HB
        have HI0 := n0_
        have HK := n1_
        have HB := n2_
        clear n0_ n1_ n2_
        refine start_ (n := 17) (S := fun w' => w'.cell? ⟨g, 2, none⟩ = some (.int .u64 s0_0) ∧ w'.cell? ⟨g, 3, none⟩ = some (.int .u64 s0_1) ∧ w'.cell? ⟨g, 4, none⟩ = some (.int .u64 s0_2) ∧ w'.cell? ⟨g, 5, none⟩ = some (.int .u64 s0_3) ∧ w'.cell? ⟨g, 6, none⟩ = some (.int .u64 s0_4)) (ds := []) #[false, false, false, false, false, false, false, false, false, false, false, false, false, false, false, false, false] (by kernel_rfl) rfl rfl ⟨(blk_cell (Aside0.mk HI0.out.1).out 2).trans rfl, (blk_cell (Aside0.mk HI0.out.1).out 3).trans rfl, (blk_cell (Aside0.mk HI0.out.1).out 4).trans rfl, (blk_cell (Aside0.mk HI0.out.1).out 5).trans rfl, (blk_cell (Aside0.mk HI0.out.1).out 6).trans rfl⟩ (fun hHeld => ?_); refine with_tabW tikref22_Clock_at.tab4 tikref22_Clock_at.bits4 (fun HT_ HW_ => ?_)
        generalize w.drew = w26 at HI0 HK HB hHeld ⊢
        refine pure_ (i := 0) (N := some 23) (v := ?_) (a' := ?_) #[true, false, false, false, false, false, false, false, false, false, false, false, false, false, false, false, false] rfl rfl (any_of HT_.out (by kernel_rfl)) (fun _ _ _ h => h) (Or.inl ⟨by rfl, ?_⟩) ?_ ?_
        rotate_left
        · intro w'
          go_simp
          with_reducible rfl
        rotate_left
        · simp only [Act.put, List.setIfInBounds_toArray, List.set_cons_zero, List.set_cons_succ, i64_w, i32_w]
          rfl
        refine pure_ (i := 1) (N := some 24) (v := ?_) (a' := ?_) #[true, true, false, false, false, false, false, false, false, false, false, false, false, false, false, false, false] rfl rfl (any_of HT_.out (by kernel_rfl)) (fun _ _ _ h => h) (Or.inl ⟨by rfl, ?_⟩) ?_ ?_
        rotate_left
        · intro w'
          go_simp
          with_reducible rfl
        rotate_left
        · simp only [Act.put, List.setIfInBounds_toArray, List.set_cons_zero, List.set_cons_succ, i64_w, i32_w]
          rfl
        refine pure_ (i := 2) (N := some 25) (v := ?_) (a' := ?_) #[true, true, true, false, false, false, false, false, false, false, false, false, false, false, false, false, false] rfl rfl (any_of HT_.out (by kernel_rfl)) (fun _ _ _ h => h) (Or.inl ⟨by rfl, ?_⟩) ?_ ?_
        rotate_left
        · intro w'
          go_simp
          with_reducible rfl
        rotate_left
        · simp only [Act.put, List.setIfInBounds_toArray, List.set_cons_zero, List.set_cons_succ, i64_w, i32_w]
          rfl
        refine pure_ (i := 3) (N := some 26) (v := ?_) (a' := ?_) #[true, true, true, true, false, false, false, false, false, false, false, false, false, false, false, false, false] rfl rfl (any_of HT_.out (by kernel_rfl)) (fun _ _ _ h => h) (Or.inl ⟨by rfl, ?_⟩) ?_ ?_
        rotate_left
        · intro w'
          go_simp
          with_reducible rfl
        rotate_left
        · simp only [Act.put, List.setIfInBounds_toArray, List.set_cons_zero, List.set_cons_succ, i64_w, i32_w]
          rfl
        refine pure_ (i := 5) (N := some 28) (v := ?_) (a' := ?_) #[true, true, true, true, false, true, false, false, false, false, false, false, false, false, false, false, false] rfl rfl (any_of HT_.out (by kernel_rfl)) (fun _ _ _ h => h) (Or.inl ⟨by rfl, ?_⟩) ?_ ?_
        rotate_left
        · intro w'
          go_simp
          with_reducible rfl
        rotate_left
        · simp only [Act.put, List.setIfInBounds_toArray, List.set_cons_zero, List.set_cons_succ, i64_w, i32_w]
          rfl
        refine pure_ (i := 6) (N := some 29) (v := ?_) (a' := ?_) #[true, true, true, true, false, true, true, false, false, false, false, false, false, false, false, false, false] rfl rfl (any_of HT_.out (by kernel_rfl)) (fun _ _ _ h => h) (Or.inl ⟨by rfl, ?_⟩) ?_ ?_
        rotate_left
        · intro w'
          go_simp
          with_reducible rfl
        rotate_left
        · simp only [Act.put, List.setIfInBounds_toArray, List.set_cons_zero, List.set_cons_succ, i64_w, i32_w]
          rfl
        refine pure_ (i := 7) (N := some 30) (v := ?_) (a' := ?_) #[true, true, true, true, false, true, true, true, false, false, false, false, false, false, false, false, false] rfl rfl (any_of HT_.out (by kernel_rfl)) (fun _ _ _ h => h) (Or.inl ⟨by rfl, ?_⟩) ?_ ?_
        rotate_left
        · intro w'
          go_simp
          with_reducible rfl
        rotate_left
        · simp only [Act.put, List.setIfInBounds_toArray, List.set_cons_zero, List.set_cons_succ, i64_w, i32_w]
          rfl
        refine take_ (i := 4) (N := some 27) (v := ?_) (a' := ?_) #[true, true, true, true, true, true, true, true, false, false, false, false, false, false, false, false, false] rfl rfl (take_ofW HT_.out HW_.out (by kernel_rfl)) (fun _ _ _ h => h) (Or.inl ⟨by rfl, ?_⟩) hHeld ?_ ?_
        rotate_left
        · rintro w' ⟨s0, s1, s2, s3, s4⟩
          go_simp
          with_reducible rfl
        rotate_left
        · simp only [Act.put, List.setIfInBounds_toArray, List.set_cons_zero, List.set_cons_succ, i64_w, i32_w]
          rfl
        refine take_ (i := 8) (N := some 31) (v := ?_) (a' := ?_) #[true, true, true, true, true, true, true, true, true, false, false, false, false, false, false, false, false] rfl rfl (take_ofW HT_.out HW_.out (by kernel_rfl)) (fun _ _ _ h => h) (Or.inl ⟨by rfl, ?_⟩) hHeld ?_ ?_
        rotate_left
        · rintro w' ⟨s0, s1, s2, s3, s4⟩
          go_simp
          with_reducible rfl
        rotate_left
        · simp only [Act.put, List.setIfInBounds_toArray, List.set_cons_zero, List.set_cons_succ, i64_w, i32_w]
          rfl
        refine one_ (i := 9) (N := some 32) #[true, true, true, true, true, true, true, true, true, true, false, false, false, false, false, false, false] rfl rfl (one_of HT_.out (by kernel_rfl)) (by decide) (fun K hK => ?_)
        refine goes_ Tryd.func114 (by kernel_rfl) rfl #[.int .u64 0, .int .u64 s0_2, .agg #[.int .u64 s0_3, .int .u64 s0_4]] (by rfl) rfl rfl (by (try simp only [List.map_toArray, List.map_cons, List.map_nil]); first | done | rfl | (simp only [List.length_drop, List.length_take]; rfl)) ?_
        with_reducible refine (tikref1_Scale.calls k 0 s0_2 s0_3 s0_4 t104 t105 t106 _ A18.out).mono ?_
        rintro e w27 ⟨rfl, hb⟩
        refine ⟨_, rfl, ?_⟩
        have n0_ := Aside0.mk (IsS43.below (by repeat (first | (with_reducible first | exact HI0.out | apply IsS43.alloc | apply IsS43.drewN | apply IsS43.drew | apply IsS43.set_2 | apply IsS43.set_3 | apply IsS43.set_4 | apply IsS43.set_5 | apply IsS43.set_6) | exact HI0.out)) hb)
        have n1_ := Aside0.mk (KeepBut.trans (by repeat (first | (with_reducible first | exact HK.out | apply KeepBut.set_ | apply keep_drewN | apply keep_drew | apply keep_alloc) | exact HK.out)) (KeepBut.of_below hb g none) (.inl rfl))
        have n2_ := Aside0.mk (below_step (by repeat (first | (with_reducible first | exact HB.out | apply below_alloc | apply pw_below_drewN | apply below_drew1 | refine below_set ?_ (IsS43.ge HI0.out)) | exact HB.out)) hb)
        clear HI0
        clear HK
        clear HB
        have HI0 := n0_
        have HK := n1_
        have HB := n2_
        clear n0_ n1_ n2_
        (try clear hb)
        (try clear hb2)
        (try clear hk)
        (try clear hi)
        refine hK.out _ _ ⟨(blk_cell (Aside0.mk HI0.out.1).out 2).trans rfl, (blk_cell (Aside0.mk HI0.out.1).out 3).trans rfl, (blk_cell (Aside0.mk HI0.out.1).out 4).trans rfl, (blk_cell (Aside0.mk HI0.out.1).out 5).trans rfl, (blk_cell (Aside0.mk HI0.out.1).out 6).trans rfl⟩ (fun hHeld => ?_)
        clear hK K
        refine norm_ (a' := ?_) ?_ ?_
        rotate_left
        · show Act.put _ (some 32) _ = _
          simp only [Act.put, List.setIfInBounds_toArray, List.set_cons_zero, List.set_cons_succ, i64_w, i32_w]
          rfl
        refine pure_ (i := 10) (N := some 22) (v := ?_) (a' := ?_) #[true, true, true, true, true, true, true, true, true, true, true, false, false, false, false, false, false] rfl rfl (any_of HT_.out (by kernel_rfl)) (fun _ _ _ h => h) (Or.inl ⟨by rfl, ?_⟩) ?_ ?_
        rotate_left
        · intro w'
          go_simp
          with_reducible rfl
        rotate_left
        · simp only [Act.put, List.setIfInBounds_toArray, List.set_cons_zero, List.set_cons_succ, i64_w, i32_w]
          rfl
        refine pure_ (i := 11) (N := some 33) (v := ?_) (a' := ?_) #[true, true, true, true, true, true, true, true, true, true, true, true, false, false, false, false, false] rfl rfl (any_of HT_.out (by kernel_rfl)) (fun _ _ _ h => h) (Or.inl ⟨by rfl, ?_⟩) ?_ ?_
        rotate_left
        · intro w'
          go_simp
          with_reducible rfl
        rotate_left
        · simp only [Act.put, List.setIfInBounds_toArray, List.set_cons_zero, List.set_cons_succ, i64_w, i32_w]
          rfl
        refine pure_ (i := 12) (N := some 34) (v := ?_) (a' := ?_) #[true, true, true, true, true, true, true, true, true, true, true, true, true, false, false, false, false] rfl rfl (any_of HT_.out (by kernel_rfl)) (fun _ _ _ h => h) (Or.inl ⟨by rfl, ?_⟩) ?_ ?_
        rotate_left
        · intro w'
          go_simp
          with_reducible rfl
        rotate_left
        · simp only [Act.put, List.setIfInBounds_toArray, List.set_cons_zero, List.set_cons_succ, i64_w, i32_w]
          rfl
        refine pure_ (i := 13) (N := some 35) (v := ?_) (a' := ?_) #[true, true, true, true, true, true, true, true, true, true, true, true, true, true, false, false, false] rfl rfl (any_of HT_.out (by kernel_rfl)) (fun _ _ _ h => h) (Or.inl ⟨by rfl, ?_⟩) ?_ ?_
        rotate_left
        · intro w'
          go_simp
          with_reducible rfl
        rotate_left
        · simp only [Act.put, List.setIfInBounds_toArray, List.set_cons_zero, List.set_cons_succ, i64_w, i32_w]
          rfl
        refine pure_ (i := 14) (N := some 7) (v := ?_) (a' := ?_) #[true, true, true, true, true, true, true, true, true, true, true, true, true, true, true, false, false] rfl rfl (any_of HT_.out (by kernel_rfl)) (fun _ _ _ h => h) (Or.inl ⟨by rfl, ?_⟩) ?_ ?_
        rotate_left
        · intro w'
          go_simp
          with_reducible rfl
        rotate_left
        · simp only [Act.put, List.setIfInBounds_toArray, List.set_cons_zero, List.set_cons_succ, i64_w, i32_w]
          rfl
        refine pure_ (i := 15) (N := some 8) (v := ?_) (a' := ?_) #[true, true, true, true, true, true, true, true, true, true, true, true, true, true, true, true, false] rfl rfl (any_of HT_.out (by kernel_rfl)) (fun _ _ _ h => h) (Or.inl ⟨by rfl, ?_⟩) ?_ ?_
        rotate_left
        · intro w'
          go_simp
          with_reducible rfl
        rotate_left
        · simp only [Act.put, List.setIfInBounds_toArray, List.set_cons_zero, List.set_cons_succ, i64_w, i32_w]
          rfl
        refine pure_ (i := 16) (N := some 9) (v := ?_) (a' := ?_) #[true, true, true, true, true, true, true, true, true, true, true, true, true, true, true, true, true] rfl rfl (any_of HT_.out (by kernel_rfl)) (fun _ _ _ h => h) (Or.inl ⟨by rfl, ?_⟩) ?_ ?_
        rotate_left
        · intro w'
          go_simp
          with_reducible rfl
        rotate_left
        · simp only [Act.put, List.setIfInBounds_toArray, List.set_cons_zero, List.set_cons_succ, i64_w, i32_w]
          rfl
        refine done_ (done_of HT_.out (by kernel_rfl)) ?_
        obtain ⟨HGz28, hgz28⟩ := HI0.out
        have hcz28_0 := cellS43_2 HGz28
        have hcz28_1 := cellS43_3 HGz28
        have hcz28_2 := cellS43_4 HGz28
        have hcz28_3 := cellS43_5 HGz28
        have hcz28_4 := cellS43_6 HGz28
        have hfz28_0 := blk_frozen HGz28 2
        have hfz28_1 := blk_frozen HGz28 3
        have hfz28_2 := blk_frozen HGz28 4
        have hfz28_3 := blk_frozen HGz28 5
        have hfz28_4 := blk_frozen HGz28 6
        clear HGz28 hgz28
        try go_wp2
        go_ret2
        exact ⟨by first | rfl | (simp [errW_none, errW_some] <;> rfl) | (simp [*, errW_none, errW_some] <;> rfl), by repeat (first | (with_reducible first | exact HI0.out | apply IsS43.alloc | apply IsS43.drewN | apply IsS43.drew | apply IsS43.set_2 | apply IsS43.set_3 | apply IsS43.set_4 | apply IsS43.set_5 | apply IsS43.set_6) | exact HI0.out), by repeat (first | (with_reducible first | exact HB.out | apply below_alloc | apply pw_below_drewN | apply below_drew1 | refine below_set ?_ (IsS43.ge HI0.out)) | exact HB.out), by repeat (first | (with_reducible first | exact HK.out | apply KeepBut.set_ | apply keep_drewN | apply keep_drew | apply keep_alloc) | exact HK.out)⟩
    · rw [if_neg c19] at H
      have c19b0 : (t106 == 0) = false := beq_eq_false_iff_ne.mpr c19
      have c19b1 : (t106 != 0) = true := bne_iff_ne.mpr c19
      simp only [Option.some.injEq, Prod.mk.injEq] at H
      obtain ⟨rfl, rfl, rfl, rfl, rfl, rfl, rfl⟩ := H
      obtain ⟨HGz29, hgz29⟩ := HI0.out
      have hcz29_0 := cellS43_2 HGz29
      have hcz29_1 := cellS43_3 HGz29
      have hcz29_2 := cellS43_4 HGz29
      have hcz29_3 := cellS43_5 HGz29
      have hcz29_4 := cellS43_6 HGz29
      have hfz29_0 := blk_frozen HGz29 2
      have hfz29_1 := blk_frozen HGz29 3
      have hfz29_2 := blk_frozen HGz29 4
      have hfz29_3 := blk_frozen HGz29 5
      have hfz29_4 := blk_frozen HGz29 6
      clear HGz29 hgz29
      go_enter Tryd.func110, Tryd.ntmps110
      try go_wp2
      have n0_ := Aside0.mk (IsS43.drew HI0.out)
      have n1_ := Aside0.mk (keep_drew HK.out)
      have n2_ := Aside0.mk (below_drew1 HB.out)
      clear HI0
      clear HK
      clear HB
      have HI0 := n0_
      have HK := n1_
      have HB := n2_
      clear n0_ n1_ n2_
      refine start_ (n := 17) (S := fun w' => w'.cell? ⟨g, 2, none⟩ = some (.int .u64 s0_0) ∧ w'.cell? ⟨g, 3, none⟩ = some (.int .u64 s0_1) ∧ w'.cell? ⟨g, 4, none⟩ = some (.int .u64 s0_2) ∧ w'.cell? ⟨g, 5, none⟩ = some (.int .u64 s0_3) ∧ w'.cell? ⟨g, 6, none⟩ = some (.int .u64 s0_4)) (ds := []) #[false, false, false, false, false, false, false, false, false, false, false, false, false, false, false, false, false] (by kernel_rfl) rfl rfl ⟨(blk_cell (Aside0.mk HI0.out.1).out 2).trans rfl, (blk_cell (Aside0.mk HI0.out.1).out 3).trans rfl, (blk_cell (Aside0.mk HI0.out.1).out 4).trans rfl, (blk_cell (Aside0.mk HI0.out.1).out 5).trans rfl, (blk_cell (Aside0.mk HI0.out.1).out 6).trans rfl⟩ (fun hHeld => ?_); refine with_tabW tikref22_Clock_at.tab4 tikref22_Clock_at.bits4 (fun HT_ HW_ => ?_)
      generalize w.drew = w30 at HI0 HK HB hHeld ⊢
      refine pure_ (i := 0) (N := some 23) (v := ?_) (a' := ?_) #[true, false, false, false, false, false, false, false, false, false, false, false, false, false, false, false, false] rfl rfl (any_of HT_.out (by kernel_rfl)) (fun _ _ _ h => h) (Or.inl ⟨by rfl, ?_⟩) ?_ ?_
      rotate_left
      · intro w'
        go_simp
        with_reducible rfl
      rotate_left
      · simp only [Act.put, List.setIfInBounds_toArray, List.set_cons_zero, List.set_cons_succ, i64_w, i32_w]
        rfl
      refine pure_ (i := 1) (N := some 24) (v := ?_) (a' := ?_) #[true, true, false, false, false, false, false, false, false, false, false, false, false, false, false, false, false] rfl rfl (any_of HT_.out (by kernel_rfl)) (fun _ _ _ h => h) (Or.inl ⟨by rfl, ?_⟩) ?_ ?_
      rotate_left
      · intro w'
        go_simp
        with_reducible rfl
      rotate_left
      · simp only [Act.put, List.setIfInBounds_toArray, List.set_cons_zero, List.set_cons_succ, i64_w, i32_w]
        rfl
      refine pure_ (i := 2) (N := some 25) (v := ?_) (a' := ?_) #[true, true, true, false, false, false, false, false, false, false, false, false, false, false, false, false, false] rfl rfl (any_of HT_.out (by kernel_rfl)) (fun _ _ _ h => h) (Or.inl ⟨by rfl, ?_⟩) ?_ ?_
      rotate_left
      · intro w'
        go_simp
        with_reducible rfl
      rotate_left
      · simp only [Act.put, List.setIfInBounds_toArray, List.set_cons_zero, List.set_cons_succ, i64_w, i32_w]
        rfl
      refine pure_ (i := 3) (N := some 26) (v := ?_) (a' := ?_) #[true, true, true, true, false, false, false, false, false, false, false, false, false, false, false, false, false] rfl rfl (any_of HT_.out (by kernel_rfl)) (fun _ _ _ h => h) (Or.inl ⟨by rfl, ?_⟩) ?_ ?_
      rotate_left
      · intro w'
        go_simp
        with_reducible rfl
      rotate_left
      · simp only [Act.put, List.setIfInBounds_toArray, List.set_cons_zero, List.set_cons_succ, i64_w, i32_w]
        rfl
      refine pure_ (i := 5) (N := some 28) (v := ?_) (a' := ?_) #[true, true, true, true, false, true, false, false, false, false, false, false, false, false, false, false, false] rfl rfl (any_of HT_.out (by kernel_rfl)) (fun _ _ _ h => h) (Or.inl ⟨by rfl, ?_⟩) ?_ ?_
      rotate_left
      · intro w'
        go_simp
        with_reducible rfl
      rotate_left
      · simp only [Act.put, List.setIfInBounds_toArray, List.set_cons_zero, List.set_cons_succ, i64_w, i32_w]
        rfl
      refine pure_ (i := 6) (N := some 29) (v := ?_) (a' := ?_) #[true, true, true, true, false, true, true, false, false, false, false, false, false, false, false, false, false] rfl rfl (any_of HT_.out (by kernel_rfl)) (fun _ _ _ h => h) (Or.inl ⟨by rfl, ?_⟩) ?_ ?_
      rotate_left
      · intro w'
        go_simp
        with_reducible rfl
      rotate_left
      · simp only [Act.put, List.setIfInBounds_toArray, List.set_cons_zero, List.set_cons_succ, i64_w, i32_w]
        rfl
      refine pure_ (i := 7) (N := some 30) (v := ?_) (a' := ?_) #[true, true, true, true, false, true, true, true, false, false, false, false, false, false, false, false, false] rfl rfl (any_of HT_.out (by kernel_rfl)) (fun _ _ _ h => h) (Or.inl ⟨by rfl, ?_⟩) ?_ ?_
      rotate_left
      · intro w'
        go_simp
        with_reducible rfl
      rotate_left
      · simp only [Act.put, List.setIfInBounds_toArray, List.set_cons_zero, List.set_cons_succ, i64_w, i32_w]
        rfl
      refine take_ (i := 4) (N := some 27) (v := ?_) (a' := ?_) #[true, true, true, true, true, true, true, true, false, false, false, false, false, false, false, false, false] rfl rfl (take_ofW HT_.out HW_.out (by kernel_rfl)) (fun _ _ _ h => h) (Or.inl ⟨by rfl, ?_⟩) hHeld ?_ ?_
      rotate_left
      · rintro w' ⟨s0, s1, s2, s3, s4⟩
        go_simp
        with_reducible rfl
      rotate_left
      · simp only [Act.put, List.setIfInBounds_toArray, List.set_cons_zero, List.set_cons_succ, i64_w, i32_w]
        rfl
      refine take_ (i := 8) (N := some 31) (v := ?_) (a' := ?_) #[true, true, true, true, true, true, true, true, true, false, false, false, false, false, false, false, false] rfl rfl (take_ofW HT_.out HW_.out (by kernel_rfl)) (fun _ _ _ h => h) (Or.inl ⟨by rfl, ?_⟩) hHeld ?_ ?_
      rotate_left
      · rintro w' ⟨s0, s1, s2, s3, s4⟩
        go_simp
        with_reducible rfl
      rotate_left
      · simp only [Act.put, List.setIfInBounds_toArray, List.set_cons_zero, List.set_cons_succ, i64_w, i32_w]
        rfl
      refine one_ (i := 9) (N := some 32) #[true, true, true, true, true, true, true, true, true, true, false, false, false, false, false, false, false] rfl rfl (one_of HT_.out (by kernel_rfl)) (by decide) (fun K hK => ?_)
      refine goes_ Tryd.func114 (by kernel_rfl) rfl #[.int .u64 0, .int .u64 s0_2, .agg #[.int .u64 s0_3, .int .u64 s0_4]] (by rfl) rfl rfl (by (try simp only [List.map_toArray, List.map_cons, List.map_nil]); first | done | rfl | (simp only [List.length_drop, List.length_take]; rfl)) ?_
      with_reducible refine (tikref1_Scale.calls k 0 s0_2 s0_3 s0_4 t104 t105 t106 _ A18.out).mono ?_
      rintro e w31 ⟨rfl, hb⟩
      refine ⟨_, rfl, ?_⟩
      have n0_ := Aside0.mk (IsS43.below (by repeat (first | (with_reducible first | exact HI0.out | apply IsS43.alloc | apply IsS43.drewN | apply IsS43.drew | apply IsS43.set_2 | apply IsS43.set_3 | apply IsS43.set_4 | apply IsS43.set_5 | apply IsS43.set_6) | exact HI0.out)) hb)
      have n1_ := Aside0.mk (KeepBut.trans (by repeat (first | (with_reducible first | exact HK.out | apply KeepBut.set_ | apply keep_drewN | apply keep_drew | apply keep_alloc) | exact HK.out)) (KeepBut.of_below hb g none) (.inl rfl))
      have n2_ := Aside0.mk (below_step (by repeat (first | (with_reducible first | exact HB.out | apply below_alloc | apply pw_below_drewN | apply below_drew1 | refine below_set ?_ (IsS43.ge HI0.out)) | exact HB.out)) hb)
      clear HI0
      clear HK
      clear HB
      have HI0 := n0_
      have HK := n1_
      have HB := n2_
      clear n0_ n1_ n2_
      (try clear hb)
      (try clear hb2)
      (try clear hk)
      (try clear hi)
      refine hK.out _ _ ⟨(blk_cell (Aside0.mk HI0.out.1).out 2).trans rfl, (blk_cell (Aside0.mk HI0.out.1).out 3).trans rfl, (blk_cell (Aside0.mk HI0.out.1).out 4).trans rfl, (blk_cell (Aside0.mk HI0.out.1).out 5).trans rfl, (blk_cell (Aside0.mk HI0.out.1).out 6).trans rfl⟩ (fun hHeld => ?_)
      clear hK K
      refine norm_ (a' := ?_) ?_ ?_
      rotate_left
      · show Act.put _ (some 32) _ = _
        simp only [Act.put, List.setIfInBounds_toArray, List.set_cons_zero, List.set_cons_succ, i64_w, i32_w]
        rfl
      refine pure_ (i := 10) (N := some 22) (v := ?_) (a' := ?_) #[true, true, true, true, true, true, true, true, true, true, true, false, false, false, false, false, false] rfl rfl (any_of HT_.out (by kernel_rfl)) (fun _ _ _ h => h) (Or.inl ⟨by rfl, ?_⟩) ?_ ?_
      rotate_left
      · intro w'
        go_simp
        with_reducible rfl
      rotate_left
      · simp only [Act.put, List.setIfInBounds_toArray, List.set_cons_zero, List.set_cons_succ, i64_w, i32_w]
        rfl
      refine pure_ (i := 11) (N := some 33) (v := ?_) (a' := ?_) #[true, true, true, true, true, true, true, true, true, true, true, true, false, false, false, false, false] rfl rfl (any_of HT_.out (by kernel_rfl)) (fun _ _ _ h => h) (Or.inl ⟨by rfl, ?_⟩) ?_ ?_
      rotate_left
      · intro w'
        go_simp
        with_reducible rfl
      rotate_left
      · simp only [Act.put, List.setIfInBounds_toArray, List.set_cons_zero, List.set_cons_succ, i64_w, i32_w]
        rfl
      refine pure_ (i := 12) (N := some 34) (v := ?_) (a' := ?_) #[true, true, true, true, true, true, true, true, true, true, true, true, true, false, false, false, false] rfl rfl (any_of HT_.out (by kernel_rfl)) (fun _ _ _ h => h) (Or.inl ⟨by rfl, ?_⟩) ?_ ?_
      rotate_left
      · intro w'
        go_simp
        with_reducible rfl
      rotate_left
      · simp only [Act.put, List.setIfInBounds_toArray, List.set_cons_zero, List.set_cons_succ, i64_w, i32_w]
        rfl
      refine pure_ (i := 13) (N := some 35) (v := ?_) (a' := ?_) #[true, true, true, true, true, true, true, true, true, true, true, true, true, true, false, false, false] rfl rfl (any_of HT_.out (by kernel_rfl)) (fun _ _ _ h => h) (Or.inl ⟨by rfl, ?_⟩) ?_ ?_
      rotate_left
      · intro w'
        go_simp
        with_reducible rfl
      rotate_left
      · simp only [Act.put, List.setIfInBounds_toArray, List.set_cons_zero, List.set_cons_succ, i64_w, i32_w]
        rfl
      refine pure_ (i := 14) (N := some 7) (v := ?_) (a' := ?_) #[true, true, true, true, true, true, true, true, true, true, true, true, true, true, true, false, false] rfl rfl (any_of HT_.out (by kernel_rfl)) (fun _ _ _ h => h) (Or.inl ⟨by rfl, ?_⟩) ?_ ?_
      rotate_left
      · intro w'
        go_simp
        with_reducible rfl
      rotate_left
      · simp only [Act.put, List.setIfInBounds_toArray, List.set_cons_zero, List.set_cons_succ, i64_w, i32_w]
        rfl
      refine pure_ (i := 15) (N := some 8) (v := ?_) (a' := ?_) #[true, true, true, true, true, true, true, true, true, true, true, true, true, true, true, true, false] rfl rfl (any_of HT_.out (by kernel_rfl)) (fun _ _ _ h => h) (Or.inl ⟨by rfl, ?_⟩) ?_ ?_
      rotate_left
      · intro w'
        go_simp
        with_reducible rfl
      rotate_left
      · simp only [Act.put, List.setIfInBounds_toArray, List.set_cons_zero, List.set_cons_succ, i64_w, i32_w]
        rfl
      refine pure_ (i := 16) (N := some 9) (v := ?_) (a' := ?_) #[true, true, true, true, true, true, true, true, true, true, true, true, true, true, true, true, true] rfl rfl (any_of HT_.out (by kernel_rfl)) (fun _ _ _ h => h) (Or.inl ⟨by rfl, ?_⟩) ?_ ?_
      rotate_left
      · intro w'
        go_simp
        with_reducible rfl
      rotate_left
      · simp only [Act.put, List.setIfInBounds_toArray, List.set_cons_zero, List.set_cons_succ, i64_w, i32_w]
        rfl
      refine done_ (done_of HT_.out (by kernel_rfl)) ?_
      try go_wp2
      go_ret2
      exact ⟨by first | rfl | (simp [errW_none, errW_some] <;> rfl) | (simp [*, errW_none, errW_some] <;> rfl), by repeat (first | (with_reducible first | exact HI0.out | apply IsS43.alloc | apply IsS43.drewN | apply IsS43.drew | apply IsS43.set_2 | apply IsS43.set_3 | apply IsS43.set_4 | apply IsS43.set_5 | apply IsS43.set_6) | exact HI0.out), by repeat (first | (with_reducible first | exact HB.out | apply below_alloc | apply pw_below_drewN | apply below_drew1 | refine below_set ?_ (IsS43.ge HI0.out)) | exact HB.out), by repeat (first | (with_reducible first | exact HK.out | apply KeepBut.set_ | apply keep_drewN | apply keep_drew | apply keep_alloc) | exact HK.out)⟩
end Go.Proofs.YtlgfmmkabnbllaaDoor.PK
namespace Go.Proofs.YtlgfmmkabnbllaaDoor.PK
open Go.RowKit Go.Proofs.YtlgfmmkabnbllaaDoorW.PrintWords Go.Proofs.YtlgfmmkabnbllaaDoorW.PrintLast Go.Proofs.YtlgfmmkabnbllaaDoorW.PrintMore
attribute [local go_sem] max2_int min2_int max_two min_two max_three min_three max_four min_four
open Go.Proofs.YtlgfmmkabnbllaaDoor.PD
set_option linter.unusedVariables false
set_option linter.unusedSimpArgs false
def tikref22_Clock_Go.f (k : Nat) (s0_0 : Int) (s0_1 : Int) (s0_2 : Int) (s0_3 : Int) (s0_4 : Int) (a1 : Int) : Option (Int × Int × Int × Int × Int × Int) := if a1 ≥ s0_0 then ((tikref22_Clock_at.f k s0_0 s0_1 s0_2 s0_3 s0_4 a1).bind fun bt107 => (some (bt107.1, a1, bt107.1, bt107.2.1, bt107.2.2.2.2.2.1, bt107.2.2.2.2.2.2))) else (some (s0_1, s0_0, s0_1, s0_2, s0_3, s0_4))
set_option maxHeartbeats 8000000 in
set_option maxRecDepth 100000 in
theorem tikref22_Clock_Go.calls (k : Nat) (g : Nat) (mo po : Int) (s0_0 : Int) (s0_1 : Int) (s0_2 : Int) (s0_3 : Int) (s0_4 : Int) (a1 : Int) (r1 : Int) (r2 : Int) (r3 : Int) (r4 : Int) (r5 : Int) (r6 : Int) (w0 w : World) (hI : IsS43 w0 w g mo po s0_0 s0_1 s0_2 s0_3 s0_4) (hB : Below w0.heap.size w0 w) (h : tikref22_Clock_Go.f k s0_0 s0_1 s0_2 s0_3 s0_4 a1 = some (r1, r2, r3, r4, r5, r6)) :
    Calls Tryd.prog 88 #[.pointer (some ⟨g, 2, none⟩), .int .u64 a1] w fun e w' => e = .returned (.int .u64 r1) ∧ IsS43 w0 w' g mo po r2 r3 r4 r5 r6 ∧ Below w0.heap.size w0 w' ∧ KeepBut w w' g none := by
  have HI0 := Aside0.mk hI
  have HK := Aside0.mk (KeepBut.refl w g none)
  have HL := Aside0.mk hB.size
  clear hI
  have HW0 := Aside0.mk hB.size
  have HB := Aside0.mk hB
  clear hB
  have H : (if a1 ≥ s0_0 then ((tikref22_Clock_at.f k s0_0 s0_1 s0_2 s0_3 s0_4 a1).bind fun bt107 => (some (bt107.1, a1, bt107.1, bt107.2.1, bt107.2.2.2.2.2.1, bt107.2.2.2.2.2.2))) else (some (s0_1, s0_0, s0_1, s0_2, s0_3, s0_4))) = some (r1, r2, r3, r4, r5, r6) := h
  clear h
  by_cases c3 : a1 ≥ s0_0
  · rw [if_pos c3] at H
    have c3b0 : decide (s0_0 ≤ a1) = true := decide_eq_true c3
    clear c3
    replace H := Option.bind_eq_some_iff.mp H
    obtain ⟨⟨t107, t108, t109, t110, t111, t112, t113⟩, A40, H⟩ := H
    replace H : (some (t107, a1, t107, t108, t112, t113)) = some (r1, r2, r3, r4, r5, r6) := H
    have A4 := Aside0.mk A40
    clear A40
    simp only [Option.some.injEq, Prod.mk.injEq] at H
    obtain ⟨rfl, rfl, rfl, rfl, rfl, rfl⟩ := H
    obtain ⟨HGz5, hgz5⟩ := HI0.out
    have hcz5_0 := cellS43_2 HGz5
    have hcz5_1 := cellS43_3 HGz5
    have hcz5_2 := cellS43_4 HGz5
    have hcz5_3 := cellS43_5 HGz5
    have hcz5_4 := cellS43_6 HGz5
    have hfz5_0 := blk_frozen HGz5 2
    have hfz5_1 := blk_frozen HGz5 3
    have hfz5_2 := blk_frozen HGz5 4
    have hfz5_3 := blk_frozen HGz5 5
    have hfz5_4 := blk_frozen HGz5 6
    clear HGz5 hgz5
    go_enter Tryd.func88, Tryd.ntmps88
    go_wp2_with (first | ((with_reducible refine gate_callee (f := 110) rfl ?_); refine goesL_ (some 16) rfl rfl Tryd.func110 (by kernel_rfl) rfl #[.pointer (some ⟨g, 2, none⟩), .int .u64 a1] rfl (by (try simp only [List.map_toArray, List.map_cons, List.map_nil]); first | done | rfl | (simp only [List.length_drop, List.length_take]; rfl)) ?_; (with_reducible refine (tikref22_Clock_at.calls k g mo po s0_0 s0_1 s0_2 s0_3 s0_4 a1 t107 t108 t109 t110 t111 t112 t113 w0 _ ?side1 ?side2 A4.out).mono ?_); (case side1 => repeat (first | (with_reducible first | exact HI0.out | apply IsS43.alloc | apply IsS43.drewN | apply IsS43.drew | apply IsS43.set_2 | apply IsS43.set_3 | apply IsS43.set_4 | apply IsS43.set_5 | apply IsS43.set_6) | exact HI0.out)); (case side2 => repeat (first | (with_reducible first | exact HB.out | apply below_alloc | apply pw_below_drewN | apply below_drew1 | refine below_set ?_ (IsS43.ge HI0.out)) | exact HB.out)); rintro e w6 ⟨rfl, hi, hb, hk⟩; refine ⟨_, rfl, ?_⟩; have n0_ := Aside0.mk (KeepBut.trans (by repeat (first | (with_reducible first | exact HK.out | apply KeepBut.set_ | apply keep_drewN | apply keep_drew | apply keep_alloc) | exact HK.out)) hk (.inl rfl)); have n1_ := Aside0.mk (hb); have n2_ := Aside0.mk (hi); clear HK; clear HB; clear HI0; have HK := n0_; have HB := n1_; have HI0 := n2_; clear n0_ n1_ n2_; (try clear hb); (try clear hb2); (try clear hk); (try clear hi); obtain ⟨HGz7, hgz7⟩ := HI0.out; have hcz7_0 := cellS43_2 HGz7; have hcz7_1 := cellS43_3 HGz7; have hcz7_2 := cellS43_4 HGz7; have hcz7_3 := cellS43_5 HGz7; have hcz7_4 := cellS43_6 HGz7; have hfz7_0 := blk_frozen HGz7 2; have hfz7_1 := blk_frozen HGz7 3; have hfz7_2 := blk_frozen HGz7 4; have hfz7_3 := blk_frozen HGz7 5; have hfz7_4 := blk_frozen HGz7 6; clear HGz7 hgz7))
    go_ret
    exact ⟨by first | rfl | (simp [errW_none, errW_some] <;> rfl) | (simp [*, errW_none, errW_some] <;> rfl), by repeat (first | (with_reducible first | exact HI0.out | apply IsS43.alloc | apply IsS43.drewN | apply IsS43.drew | apply IsS43.set_2 | apply IsS43.set_3 | apply IsS43.set_4 | apply IsS43.set_5 | apply IsS43.set_6) | exact HI0.out), by repeat (first | (with_reducible first | exact HB.out | apply below_alloc | apply pw_below_drewN | apply below_drew1 | refine below_set ?_ (IsS43.ge HI0.out)) | exact HB.out), by repeat (first | (with_reducible first | exact HK.out | apply KeepBut.set_ | apply keep_drewN | apply keep_drew | apply keep_alloc) | exact HK.out)⟩
  · rw [if_neg c3] at H
    have c3b0 : decide (s0_0 ≤ a1) = false := decide_eq_false c3
    clear c3
    simp only [Option.some.injEq, Prod.mk.injEq] at H
    obtain ⟨rfl, rfl, rfl, rfl, rfl, rfl⟩ := H
    obtain ⟨HGz8, hgz8⟩ := HI0.out
    have hcz8_0 := cellS43_2 HGz8
    have hcz8_1 := cellS43_3 HGz8
    have hcz8_2 := cellS43_4 HGz8
    have hcz8_3 := cellS43_5 HGz8
    have hcz8_4 := cellS43_6 HGz8
    have hfz8_0 := blk_frozen HGz8 2
    have hfz8_1 := blk_frozen HGz8 3
    have hfz8_2 := blk_frozen HGz8 4
    have hfz8_3 := blk_frozen HGz8 5
    have hfz8_4 := blk_frozen HGz8 6
    clear HGz8 hgz8
    go_enter Tryd.func88, Tryd.ntmps88
    go_wp2
    go_ret
    exact ⟨by first | rfl | (simp [errW_none, errW_some] <;> rfl) | (simp [*, errW_none, errW_some] <;> rfl), by repeat (first | (with_reducible first | exact HI0.out | apply IsS43.alloc | apply IsS43.drewN | apply IsS43.drew | apply IsS43.set_2 | apply IsS43.set_3 | apply IsS43.set_4 | apply IsS43.set_5 | apply IsS43.set_6) | exact HI0.out), by repeat (first | (with_reducible first | exact HB.out | apply below_alloc | apply pw_below_drewN | apply below_drew1 | refine below_set ?_ (IsS43.ge HI0.out)) | exact HB.out), by repeat (first | (with_reducible first | exact HK.out | apply KeepBut.set_ | apply keep_drewN | apply keep_drew | apply keep_alloc) | exact HK.out)⟩
def tikref22_Clock_Set.f (s0_0 : Int) (s0_1 : Int) (s0_2 : Int) (s0_3 : Int) (s0_4 : Int) (a1 : Int) (a2 : Int) : Option (Int × Int × Int × Int × Int × Int) := if a1 > 4611686018427387904 then (some (1, s0_0, s0_1, s0_2, s0_3, s0_4)) else (if a2 > 4611686018427387904 then (some (1, s0_0, s0_1, s0_2, s0_3, s0_4)) else (some (0, a1, a2, 0, s0_3, s0_4)))
set_option maxHeartbeats 8000000 in
set_option maxRecDepth 100000 in
theorem tikref22_Clock_Set.calls (g : Nat) (mo po : Int) (s0_0 : Int) (s0_1 : Int) (s0_2 : Int) (s0_3 : Int) (s0_4 : Int) (a1 : Int) (a2 : Int) (r1 : Int) (r2 : Int) (r3 : Int) (r4 : Int) (r5 : Int) (r6 : Int) (w0 w : World) (hI : IsS43 w0 w g mo po s0_0 s0_1 s0_2 s0_3 s0_4) (hB : Below w0.heap.size w0 w) (h : tikref22_Clock_Set.f s0_0 s0_1 s0_2 s0_3 s0_4 a1 a2 = some (r1, r2, r3, r4, r5, r6)) :
    Calls Tryd.prog 89 #[.pointer (some ⟨g, 2, none⟩), .int .u64 a1, .int .u64 a2] w fun e w' => e = .returned (.int .i64 r1) ∧ IsS43 w0 w' g mo po r2 r3 r4 r5 r6 ∧ Below w0.heap.size w0 w' ∧ KeepBut w w' g none := by
  have HI0 := Aside0.mk hI
  have HK := Aside0.mk (KeepBut.refl w g none)
  have HL := Aside0.mk hB.size
  clear hI
  have HW0 := Aside0.mk hB.size
  have HB := Aside0.mk hB
  clear hB
  have H : (if a1 > 4611686018427387904 then (some (1, s0_0, s0_1, s0_2, s0_3, s0_4)) else (if a2 > 4611686018427387904 then (some (1, s0_0, s0_1, s0_2, s0_3, s0_4)) else (some (0, a1, a2, 0, s0_3, s0_4)))) = some (r1, r2, r3, r4, r5, r6) := h
  clear h
  by_cases c4 : a1 > 4611686018427387904
  · rw [if_pos c4] at H
    have c4b0 : decide (4611686018427387904 < a1) = true := decide_eq_true c4
    clear c4
    simp only [Option.some.injEq, Prod.mk.injEq] at H
    obtain ⟨rfl, rfl, rfl, rfl, rfl, rfl⟩ := H
    go_enter Tryd.func89, Tryd.ntmps89
    go_wp2
    go_ret
    exact ⟨by first | rfl | (simp [errW_none, errW_some] <;> rfl) | (simp [*, errW_none, errW_some] <;> rfl), by repeat (first | (with_reducible first | exact HI0.out | apply IsS43.alloc | apply IsS43.drewN | apply IsS43.drew | apply IsS43.set_2 | apply IsS43.set_3 | apply IsS43.set_4 | apply IsS43.set_5 | apply IsS43.set_6) | exact HI0.out), by repeat (first | (with_reducible first | exact HB.out | apply below_alloc | apply pw_below_drewN | apply below_drew1 | refine below_set ?_ (IsS43.ge HI0.out)) | exact HB.out), by repeat (first | (with_reducible first | exact HK.out | apply KeepBut.set_ | apply keep_drewN | apply keep_drew | apply keep_alloc) | exact HK.out)⟩
  · rw [if_neg c4] at H
    have c4b0 : decide (4611686018427387904 < a1) = false := decide_eq_false c4
    clear c4
    by_cases c5 : a2 > 4611686018427387904
    · rw [if_pos c5] at H
      have c5b0 : decide (4611686018427387904 < a2) = true := decide_eq_true c5
      clear c5
      simp only [Option.some.injEq, Prod.mk.injEq] at H
      obtain ⟨rfl, rfl, rfl, rfl, rfl, rfl⟩ := H
      go_enter Tryd.func89, Tryd.ntmps89
      go_wp2
      go_ret
      exact ⟨by first | rfl | (simp [errW_none, errW_some] <;> rfl) | (simp [*, errW_none, errW_some] <;> rfl), by repeat (first | (with_reducible first | exact HI0.out | apply IsS43.alloc | apply IsS43.drewN | apply IsS43.drew | apply IsS43.set_2 | apply IsS43.set_3 | apply IsS43.set_4 | apply IsS43.set_5 | apply IsS43.set_6) | exact HI0.out), by repeat (first | (with_reducible first | exact HB.out | apply below_alloc | apply pw_below_drewN | apply below_drew1 | refine below_set ?_ (IsS43.ge HI0.out)) | exact HB.out), by repeat (first | (with_reducible first | exact HK.out | apply KeepBut.set_ | apply keep_drewN | apply keep_drew | apply keep_alloc) | exact HK.out)⟩
    · rw [if_neg c5] at H
      have c5b0 : decide (4611686018427387904 < a2) = false := decide_eq_false c5
      clear c5
      simp only [Option.some.injEq, Prod.mk.injEq] at H
      obtain ⟨rfl, rfl, rfl, rfl, rfl, rfl⟩ := H
      obtain ⟨HGz6, hgz6⟩ := HI0.out
      have hcz6_0 := cellS43_2 HGz6
      have hcz6_1 := cellS43_3 HGz6
      have hcz6_2 := cellS43_4 HGz6
      have hcz6_3 := cellS43_5 HGz6
      have hcz6_4 := cellS43_6 HGz6
      have hfz6_0 := blk_frozen HGz6 2
      have hfz6_1 := blk_frozen HGz6 3
      have hfz6_2 := blk_frozen HGz6 4
      have hfz6_3 := blk_frozen HGz6 5
      have hfz6_4 := blk_frozen HGz6 6
      clear HGz6 hgz6
      go_enter Tryd.func89, Tryd.ntmps89
      go_wp2
      go_ret
      exact ⟨by first | rfl | (simp [errW_none, errW_some] <;> rfl) | (simp [*, errW_none, errW_some] <;> rfl), by repeat (first | (with_reducible first | exact HI0.out | apply IsS43.alloc | apply IsS43.drewN | apply IsS43.drew | apply IsS43.set_2 | apply IsS43.set_3 | apply IsS43.set_4 | apply IsS43.set_5 | apply IsS43.set_6) | exact HI0.out), by repeat (first | (with_reducible first | exact HB.out | apply below_alloc | apply pw_below_drewN | apply below_drew1 | refine below_set ?_ (IsS43.ge HI0.out)) | exact HB.out), by repeat (first | (with_reducible first | exact HK.out | apply KeepBut.set_ | apply keep_drewN | apply keep_drew | apply keep_alloc) | exact HK.out)⟩
def tikref22_Clock_Turn.f (k : Nat) (s0_0 : Int) (s0_1 : Int) (s0_2 : Int) (s0_3 : Int) (s0_4 : Int) (a1 : Int) (a2_0 : Int) (a2_1 : Int) : Option (Int × Int × Int × Int × Int × Int) := if a1 > 4611686018427387904 then (some (1, s0_0, s0_1, s0_2, s0_3, s0_4)) else ((tikref1_May.f a2_0 a2_1).bind fun t115 => (if t115 = true then ((tikref22_Clock_Go.f k s0_0 s0_1 s0_2 s0_3 s0_4 a1).bind fun bt116 => (if bt116.2.2.2.2.2 = 0 then (none) else (some (0, bt116.2.1, bt116.2.2.1, IntKind.u64.wrap (Int.tdiv (IntKind.u64.wrap (bt116.2.2.2.1 * a2_1)) bt116.2.2.2.2.2), a2_0, a2_1)))) else (some (1, s0_0, s0_1, s0_2, s0_3, s0_4))))
def tikref22_Clock_Turn.T4 : Bool × List (List Nat × List Nat) := (true, [([], []), ([], []), ([1], [1]), ([2], [2]), ([3], [3]), ([], []), ([5], [5]), ([4, 6], [4, 6]), ([], []), ([8], [8]), ([9], [9]), ([10], [10]), ([11], [11]), ([7, 12], [7, 12]), ([0, 0, 1, 2, 3, 4, 5, 6, 7, 8, 9, 10, 11, 12, 13], [0]), ([14, 0, 1, 2, 3, 4, 5, 6, 7, 8, 9, 10, 11, 12, 13], [14]), ([15, 13, 0, 1, 2, 3, 4, 5, 6, 7, 8, 9, 10, 11, 12, 13], [13, 15])])
def tikref22_Clock_Turn.B4 : List Nat := [0, 0, 2, 6, 14, 0, 32, 126, 0, 256, 768, 1792, 3840, 8190, 16383, 32767, 65535]
theorem tikref22_Clock_Turn.tab4 : rtab .any (opsOf Tryd.f87 4) = tikref22_Clock_Turn.T4 := by kernel_rfl
theorem tikref22_Clock_Turn.bits4 : waitsOk tikref22_Clock_Turn.T4.2 tikref22_Clock_Turn.B4 = true := by kernel_rfl
set_option maxHeartbeats 8000000 in
set_option maxRecDepth 100000 in
theorem tikref22_Clock_Turn.calls (k : Nat) (g : Nat) (mo po : Int) (s0_0 : Int) (s0_1 : Int) (s0_2 : Int) (s0_3 : Int) (s0_4 : Int) (a1 : Int) (a2_0 : Int) (a2_1 : Int) (r1 : Int) (r2 : Int) (r3 : Int) (r4 : Int) (r5 : Int) (r6 : Int) (w0 w : World) (hI : IsS43 w0 w g mo po s0_0 s0_1 s0_2 s0_3 s0_4) (hB : Below w0.heap.size w0 w) (h : tikref22_Clock_Turn.f k s0_0 s0_1 s0_2 s0_3 s0_4 a1 a2_0 a2_1 = some (r1, r2, r3, r4, r5, r6)) :
    Calls Tryd.prog 87 #[.pointer (some ⟨g, 2, none⟩), .int .u64 a1, .agg #[.int .u64 a2_0, .int .u64 a2_1]] w fun e w' => e = .returned (.int .i64 r1) ∧ IsS43 w0 w' g mo po r2 r3 r4 r5 r6 ∧ Below w0.heap.size w0 w' ∧ KeepBut w w' g none := by
  have hu39 := Tryd.underlying39
  have HI0 := Aside0.mk hI
  have HK := Aside0.mk (KeepBut.refl w g none)
  have HL := Aside0.mk hB.size
  clear hI
  have HW0 := Aside0.mk hB.size
  have HB := Aside0.mk hB
  clear hB
  have H : (if a1 > 4611686018427387904 then (some (1, s0_0, s0_1, s0_2, s0_3, s0_4)) else ((tikref1_May.f a2_0 a2_1).bind fun t115 => (if t115 = true then ((tikref22_Clock_Go.f k s0_0 s0_1 s0_2 s0_3 s0_4 a1).bind fun bt116 => (if bt116.2.2.2.2.2 = 0 then (none) else (some (0, bt116.2.1, bt116.2.2.1, IntKind.u64.wrap (Int.tdiv (IntKind.u64.wrap (bt116.2.2.2.1 * a2_1)) bt116.2.2.2.2.2), a2_0, a2_1)))) else (some (1, s0_0, s0_1, s0_2, s0_3, s0_4))))) = some (r1, r2, r3, r4, r5, r6) := h
  clear h
  by_cases c4 : a1 > 4611686018427387904
  · rw [if_pos c4] at H
    have c4b0 : decide (4611686018427387904 < a1) = true := decide_eq_true c4
    clear c4
    simp only [Option.some.injEq, Prod.mk.injEq] at H
    obtain ⟨rfl, rfl, rfl, rfl, rfl, rfl⟩ := H
    go_enter Tryd.func87, Tryd.ntmps87
    go_wp2_with (first | ((with_reducible refine gate_dst (N := 5) rfl ?_); refine box_event ?hg (N := 5) ?hd (cs := #[.int .u64 a2_0, .int .u64 a2_1]) (t := 39) ?hr ?_; (case hd => rfl); (case hg => rfl); (case hr => first | (go_simp; done) | (go_simp; rfl)); intro gb114 hg w5 hbox hb; have n0_ := Aside0.mk (IsS43.below (by repeat (first | (with_reducible first | exact HI0.out | apply IsS43.alloc | apply IsS43.drewN | apply IsS43.drew | apply IsS43.set_2 | apply IsS43.set_3 | apply IsS43.set_4 | apply IsS43.set_5 | apply IsS43.set_6) | exact HI0.out)) hb); have n1_ := Aside0.mk (KeepBut.trans (by repeat (first | (with_reducible first | exact HK.out | apply KeepBut.set_ | apply keep_drewN | apply keep_drew | apply keep_alloc) | exact HK.out)) (KeepBut.of_below hb g none) (.inl rfl)); have n2_ := Aside0.mk (below_step (by repeat (first | (with_reducible first | exact HB.out | apply below_alloc | apply pw_below_drewN | apply below_drew1 | refine below_set ?_ (IsS43.ge HI0.out)) | exact HB.out)) hb); have n3_ := Aside0.mk (hbox); have n4_ := Aside0.mk ((by rw [hg]; exact (keep_size (w := w) (g := g) (row := none) (by repeat (first | (with_reducible first | exact HK.out | apply KeepBut.set_ | apply keep_drewN | apply keep_drew | apply keep_alloc) | exact HK.out))) : w.heap.size ≤ gb114)); have n5_ := Aside0.mk ((Nat.le_trans HW0.out (by rw [hg]; exact (keep_size (w := w) (g := g) (row := none) (by repeat (first | (with_reducible first | exact HK.out | apply KeepBut.set_ | apply keep_drewN | apply keep_drew | apply keep_alloc) | exact HK.out))) : w.heap.size ≤ gb114) : w0.heap.size ≤ gb114)); have n6_ := Aside0.mk ((by rw [hg]; exact Nat.ne_of_lt (IsS43.lt (show IsS43 w0 _ g mo po s0_0 s0_1 s0_2 s0_3 s0_4 from by repeat (first | (with_reducible first | exact HI0.out | apply IsS43.alloc | apply IsS43.drewN | apply IsS43.drew | apply IsS43.set_2 | apply IsS43.set_3 | apply IsS43.set_4 | apply IsS43.set_5 | apply IsS43.set_6) | exact HI0.out))) : g ≠ gb114)); have n7_ := Aside0.mk ((by rw [hg]; exact Nat.ne_of_gt (IsS43.lt (show IsS43 w0 _ g mo po s0_0 s0_1 s0_2 s0_3 s0_4 from by repeat (first | (with_reducible first | exact HI0.out | apply IsS43.alloc | apply IsS43.drewN | apply IsS43.drew | apply IsS43.set_2 | apply IsS43.set_3 | apply IsS43.set_4 | apply IsS43.set_5 | apply IsS43.set_6) | exact HI0.out))) : gb114 ≠ g)); clear HI0; clear HK; clear HB; have HI0 := n0_; have HK := n1_; have HB := n2_; have BK114 := n3_; have GW114 := n4_; have GE114 := n5_; have NB0_114 := n6_; have NB114_0 := n7_; clear n0_ n1_ n2_ n3_ n4_ n5_ n6_ n7_; clear hb hbox hg))
    go_ret
    exact ⟨by first | rfl | (simp [errW_none, errW_some] <;> rfl) | (simp [*, errW_none, errW_some] <;> rfl), by repeat (first | (with_reducible first | exact HI0.out | apply IsS43.alloc | apply IsS43.drewN | apply IsS43.drew | apply IsS43.set_2 | apply IsS43.set_3 | apply IsS43.set_4 | apply IsS43.set_5 | apply IsS43.set_6 | refine IsS43.far ?_ NB0_114.out _) | exact HI0.out), by repeat (first | (with_reducible first | exact HB.out | apply below_alloc | apply pw_below_drewN | apply below_drew1 | refine below_set ?_ (IsS43.ge HI0.out) | refine below_set ?_ GE114.out) | exact HB.out), by repeat (first | (with_reducible first | exact HK.out | apply KeepBut.set_ | apply keep_drewN | apply keep_drew | apply keep_alloc | refine keep_far ?_ GW114.out _) | exact HK.out)⟩
  · rw [if_neg c4] at H
    have c4b0 : decide (4611686018427387904 < a1) = false := decide_eq_false c4
    clear c4
    replace H := Option.bind_eq_some_iff.mp H
    obtain ⟨t115, A60, H⟩ := H
    replace H : (if t115 = true then ((tikref22_Clock_Go.f k s0_0 s0_1 s0_2 s0_3 s0_4 a1).bind fun bt116 => (if bt116.2.2.2.2.2 = 0 then (none) else (some (0, bt116.2.1, bt116.2.2.1, IntKind.u64.wrap (Int.tdiv (IntKind.u64.wrap (bt116.2.2.2.1 * a2_1)) bt116.2.2.2.2.2), a2_0, a2_1)))) else (some (1, s0_0, s0_1, s0_2, s0_3, s0_4))) = some (r1, r2, r3, r4, r5, r6) := H
    have A6 := Aside0.mk A60
    clear A60
    by_cases c7 : t115 = true
    · subst c7
      have H1 : ((tikref22_Clock_Go.f k s0_0 s0_1 s0_2 s0_3 s0_4 a1).bind fun bt116 => (if bt116.2.2.2.2.2 = 0 then (none) else (some (0, bt116.2.1, bt116.2.2.1, IntKind.u64.wrap (Int.tdiv (IntKind.u64.wrap (bt116.2.2.2.1 * a2_1)) bt116.2.2.2.2.2), a2_0, a2_1)))) = some (r1, r2, r3, r4, r5, r6) := by rw [if_pos rfl] at H; exact H
      clear H
      have H := H1
      clear H1
      replace H := Option.bind_eq_some_iff.mp H
      obtain ⟨⟨t116, t117, t118, t119, t120, t121⟩, A80, H⟩ := H
      replace H : (if t121 = 0 then (none) else (some (0, t117, t118, IntKind.u64.wrap (Int.tdiv (IntKind.u64.wrap (t119 * a2_1)) t121), a2_0, a2_1))) = some (r1, r2, r3, r4, r5, r6) := H
      have A8 := Aside0.mk A80
      clear A80
      by_cases c9 : t121 = 0
      · rw [if_pos c9] at H
        exact absurd H (by simp)
      · rw [if_neg c9] at H
        have c9b0 : (t121 == 0) = false := beq_eq_false_iff_ne.mpr c9
        have c9b1 : (t121 != 0) = true := bne_iff_ne.mpr c9
        simp only [Option.some.injEq, Prod.mk.injEq] at H
        obtain ⟨rfl, rfl, rfl, rfl, rfl, rfl⟩ := H
        go_enter Tryd.func87, Tryd.ntmps87
        try go_wp2_with (first | ((with_reducible refine gate_dst (N := 5) rfl ?_); refine box_event ?hg (N := 5) ?hd (cs := #[.int .u64 a2_0, .int .u64 a2_1]) (t := 39) ?hr ?_; (case hd => rfl); (case hg => rfl); (case hr => first | (go_simp; done) | (go_simp; rfl)); intro gb114 hg w10 hbox hb; have n0_ := Aside0.mk (IsS43.below (by repeat (first | (with_reducible first | exact HI0.out | apply IsS43.alloc | apply IsS43.drewN | apply IsS43.drew | apply IsS43.set_2 | apply IsS43.set_3 | apply IsS43.set_4 | apply IsS43.set_5 | apply IsS43.set_6) | exact HI0.out)) hb); have n1_ := Aside0.mk (KeepBut.trans (by repeat (first | (with_reducible first | exact HK.out | apply KeepBut.set_ | apply keep_drewN | apply keep_drew | apply keep_alloc) | exact HK.out)) (KeepBut.of_below hb g none) (.inl rfl)); have n2_ := Aside0.mk (below_step (by repeat (first | (with_reducible first | exact HB.out | apply below_alloc | apply pw_below_drewN | apply below_drew1 | refine below_set ?_ (IsS43.ge HI0.out)) | exact HB.out)) hb); have n3_ := Aside0.mk (hbox); have n4_ := Aside0.mk ((by rw [hg]; exact (keep_size (w := w) (g := g) (row := none) (by repeat (first | (with_reducible first | exact HK.out | apply KeepBut.set_ | apply keep_drewN | apply keep_drew | apply keep_alloc) | exact HK.out))) : w.heap.size ≤ gb114)); have n5_ := Aside0.mk ((Nat.le_trans HW0.out (by rw [hg]; exact (keep_size (w := w) (g := g) (row := none) (by repeat (first | (with_reducible first | exact HK.out | apply KeepBut.set_ | apply keep_drewN | apply keep_drew | apply keep_alloc) | exact HK.out))) : w.heap.size ≤ gb114) : w0.heap.size ≤ gb114)); have n6_ := Aside0.mk ((by rw [hg]; exact Nat.ne_of_lt (IsS43.lt (show IsS43 w0 _ g mo po s0_0 s0_1 s0_2 s0_3 s0_4 from by repeat (first | (with_reducible first | exact HI0.out | apply IsS43.alloc | apply IsS43.drewN | apply IsS43.drew | apply IsS43.set_2 | apply IsS43.set_3 | apply IsS43.set_4 | apply IsS43.set_5 | apply IsS43.set_6) | exact HI0.out))) : g ≠ gb114)); have n7_ := Aside0.mk ((by rw [hg]; exact Nat.ne_of_gt (IsS43.lt (show IsS43 w0 _ g mo po s0_0 s0_1 s0_2 s0_3 s0_4 from by repeat (first | (with_reducible first | exact HI0.out | apply IsS43.alloc | apply IsS43.drewN | apply IsS43.drew | apply IsS43.set_2 | apply IsS43.set_3 | apply IsS43.set_4 | apply IsS43.set_5 | apply IsS43.set_6) | exact HI0.out))) : gb114 ≠ g)); clear HI0; clear HK; clear HB; have HI0 := n0_; have HK := n1_; have HB := n2_; have BK114 := n3_; have GW114 := n4_; have GE114 := n5_; have NB0_114 := n6_; have NB114_0 := n7_; clear n0_ n1_ n2_ n3_ n4_ n5_ n6_ n7_; clear hb hbox hg; have hnb11 := NB114_0.out; have hnc11 := NB0_114.out; have hcz12_0 : w10.cell? ⟨gb114, 0, none⟩ = some (.int .u64 a2_0) := (blk_cell BK114.out 0).trans rfl; have hcz12_1 : w10.cell? ⟨gb114, 1, none⟩ = some (.int .u64 a2_1) := (blk_cell BK114.out 1).trans rfl; have hfz12_0 := blk_frozen BK114.out 0; have hfz12_1 := blk_frozen BK114.out 1) | (go_at_call 109; (with_reducible refine (tikref1_May.calls a2_0 a2_1 true _ A6.out).mono ?_); rintro e w13 ⟨rfl, hb⟩; have n0_ := Aside0.mk (IsS43.below (by repeat (first | (with_reducible first | exact HI0.out | apply IsS43.alloc | apply IsS43.drewN | apply IsS43.drew | apply IsS43.set_2 | apply IsS43.set_3 | apply IsS43.set_4 | apply IsS43.set_5 | apply IsS43.set_6 | refine IsS43.far ?_ NB0_114.out _) | exact HI0.out)) hb); have n1_ := Aside0.mk (blk_below (g := gb114) (o := .cells #[.int .u64 a2_0, .int .u64 a2_1] 39 (0, 0)) (by (with_reducible repeat (first | refine blk_drewN ?_ _ | refine blk_drew ?_ | refine blk_alloc ?_ _)); exact BK114.out) hb); have n2_ := Aside0.mk (KeepBut.trans (by repeat (first | (with_reducible first | exact HK.out | apply KeepBut.set_ | apply keep_drewN | apply keep_drew | apply keep_alloc | refine keep_far ?_ GW114.out _) | exact HK.out)) (KeepBut.of_below hb g none) (.inl rfl)); have n3_ := Aside0.mk (below_step (by repeat (first | (with_reducible first | exact HB.out | apply below_alloc | apply pw_below_drewN | apply below_drew1 | refine below_set ?_ (IsS43.ge HI0.out) | refine below_set ?_ GE114.out) | exact HB.out)) hb); clear HI0; clear BK114; clear HK; clear HB; have HI0 := n0_; have BK114 := n1_; have HK := n2_; have HB := n3_; clear n0_ n1_ n2_ n3_; (try clear hb); (try clear hb2); (try clear hk); (try clear hi)) | ((with_reducible refine gate_callee (f := 88) rfl ?_); refine goesL_ (some 16) rfl rfl Tryd.func88 (by kernel_rfl) rfl #[.pointer (some ⟨g, 2, none⟩), .int .u64 a1] rfl (by (try simp only [List.map_toArray, List.map_cons, List.map_nil]); first | done | rfl | (simp only [List.length_drop, List.length_take]; rfl)) ?_; (with_reducible refine (tikref22_Clock_Go.calls k g mo po s0_0 s0_1 s0_2 s0_3 s0_4 a1 t116 t117 t118 t119 t120 t121 w0 _ ?side1 ?side2 A8.out).mono ?_); (case side1 => repeat (first | (with_reducible first | exact HI0.out | apply IsS43.alloc | apply IsS43.drewN | apply IsS43.drew | apply IsS43.set_2 | apply IsS43.set_3 | apply IsS43.set_4 | apply IsS43.set_5 | apply IsS43.set_6 | refine IsS43.far ?_ NB0_114.out _) | exact HI0.out)); (case side2 => repeat (first | (with_reducible first | exact HB.out | apply below_alloc | apply pw_below_drewN | apply below_drew1 | refine below_set ?_ (IsS43.ge HI0.out) | refine below_set ?_ GE114.out) | exact HB.out)); rintro e w14 ⟨rfl, hi, hb, hk⟩; refine ⟨_, rfl, ?_⟩; have n0_ := Aside0.mk (KeepBut.blk hk (g' := gb114) (o := .cells #[.int .u64 a2_0, .int .u64 a2_1] 39 (0, 0)) (by (with_reducible repeat (first | refine blk_drewN ?_ _ | refine blk_drew ?_ | refine blk_alloc ?_ _)); exact BK114.out) NB114_0.out (by simp)); have n1_ := Aside0.mk (KeepBut.trans (by repeat (first | (with_reducible first | exact HK.out | apply KeepBut.set_ | apply keep_drewN | apply keep_drew | apply keep_alloc | refine keep_far ?_ GW114.out _) | exact HK.out)) hk (.inl rfl)); have n2_ := Aside0.mk (hb); have n3_ := Aside0.mk (hi); clear BK114; clear HK; clear HB; clear HI0; have BK114 := n0_; have HK := n1_; have HB := n2_; have HI0 := n3_; clear n0_ n1_ n2_ n3_; (try clear hb); (try clear hb2); (try clear hk); (try clear hi)))
        have n0_ := Aside0.mk (blk_drew BK114.out)
        have n1_ := Aside0.mk (IsS43.drew HI0.out)
        have n2_ := Aside0.mk (keep_drew HK.out)
        have n3_ := Aside0.mk (below_drew1 HB.out)
        clear BK114
        clear HI0
        clear HK
        clear HB
        have BK114 := n0_
        have HI0 := n1_
        have HK := n2_
        have HB := n3_
        clear n0_ n1_ n2_ n3_
        refine start_ (n := 17) (S := fun w' => w'.cell? ⟨g, 2, none⟩ = some (.int .u64 t117) ∧ w'.cell? ⟨g, 3, none⟩ = some (.int .u64 t118) ∧ w'.cell? ⟨g, 4, none⟩ = some (.int .u64 t119) ∧ w'.cell? ⟨g, 5, none⟩ = some (.int .u64 t120) ∧ w'.cell? ⟨g, 6, none⟩ = some (.int .u64 t121) ∧ w'.cell? ⟨gb114, 0, none⟩ = some (.int .u64 a2_0) ∧ w'.cell? ⟨gb114, 1, none⟩ = some (.int .u64 a2_1)) (ds := [16]) #[false, false, false, false, false, false, false, false, false, false, false, false, false, false, false, false, false] (by kernel_rfl) rfl rfl ⟨(blk_cell (Aside0.mk HI0.out.1).out 2).trans rfl, (blk_cell (Aside0.mk HI0.out.1).out 3).trans rfl, (blk_cell (Aside0.mk HI0.out.1).out 4).trans rfl, (blk_cell (Aside0.mk HI0.out.1).out 5).trans rfl, (blk_cell (Aside0.mk HI0.out.1).out 6).trans rfl, (blk_cell BK114.out 0).trans rfl, (blk_cell BK114.out 1).trans rfl⟩ (fun hHeld => ?_); refine with_tabW tikref22_Clock_Turn.tab4 tikref22_Clock_Turn.bits4 (fun HT_ HW_ => ?_)
        generalize w14.drew = w15 at BK114 HI0 HK HB hHeld ⊢
        refine pure_ (i := 0) (N := some 17) (v := ?_) (a' := ?_) #[true, false, false, false, false, false, false, false, false, false, false, false, false, false, false, false, false] rfl rfl (any_of HT_.out (by kernel_rfl)) (fun _ _ _ h => h) (Or.inl ⟨by rfl, ?_⟩) ?_ ?_
        rotate_left
        · intro w'
          go_simp
          with_reducible rfl
        rotate_left
        · simp only [Act.put, List.setIfInBounds_toArray, List.set_cons_zero, List.set_cons_succ, i64_w, i32_w]
          rfl
        refine pure_ (i := 1) (N := some 18) (v := ?_) (a' := ?_) #[true, true, false, false, false, false, false, false, false, false, false, false, false, false, false, false, false] rfl rfl (any_of HT_.out (by kernel_rfl)) (fun _ _ _ h => h) (Or.inl ⟨by rfl, ?_⟩) ?_ ?_
        rotate_left
        · intro w'
          go_simp
          with_reducible rfl
        rotate_left
        · simp only [Act.put, List.setIfInBounds_toArray, List.set_cons_zero, List.set_cons_succ, i64_w, i32_w]
          rfl
        refine pure_ (i := 2) (N := some 19) (v := ?_) (a' := ?_) #[true, true, true, false, false, false, false, false, false, false, false, false, false, false, false, false, false] rfl rfl (any_of HT_.out (by kernel_rfl)) (fun _ _ _ h => h) (Or.inl ⟨by rfl, ?_⟩) ?_ ?_
        rotate_left
        · intro w'
          go_simp
          with_reducible rfl
        rotate_left
        · simp only [Act.put, List.setIfInBounds_toArray, List.set_cons_zero, List.set_cons_succ, i64_w, i32_w]
          rfl
        refine pure_ (i := 3) (N := some 20) (v := ?_) (a' := ?_) #[true, true, true, true, false, false, false, false, false, false, false, false, false, false, false, false, false] rfl rfl (any_of HT_.out (by kernel_rfl)) (fun _ _ _ h => h) (Or.inl ⟨by rfl, ?_⟩) ?_ ?_
        rotate_left
        · intro w'
          go_simp
          with_reducible rfl
        rotate_left
        · simp only [Act.put, List.setIfInBounds_toArray, List.set_cons_zero, List.set_cons_succ, i64_w, i32_w]
          rfl
        refine pure_ (i := 5) (N := some 22) (v := ?_) (a' := ?_) #[true, true, true, true, false, true, false, false, false, false, false, false, false, false, false, false, false] rfl rfl (any_of HT_.out (by kernel_rfl)) (fun _ _ _ h => h) (Or.inl ⟨by rfl, ?_⟩) ?_ ?_
        rotate_left
        · intro w'
          go_simp
          with_reducible rfl
        rotate_left
        · simp only [Act.put, List.setIfInBounds_toArray, List.set_cons_zero, List.set_cons_succ, i64_w, i32_w]
          rfl
        refine pure_ (i := 8) (N := some 25) (v := ?_) (a' := ?_) #[true, true, true, true, false, true, false, false, true, false, false, false, false, false, false, false, false] rfl rfl (any_of HT_.out (by kernel_rfl)) (fun _ _ _ h => h) (Or.inl ⟨by rfl, ?_⟩) ?_ ?_
        rotate_left
        · intro w'
          go_simp
          with_reducible rfl
        rotate_left
        · simp only [Act.put, List.setIfInBounds_toArray, List.set_cons_zero, List.set_cons_succ, i64_w, i32_w]
          rfl
        refine pure_ (i := 9) (N := some 26) (v := ?_) (a' := ?_) #[true, true, true, true, false, true, false, false, true, true, false, false, false, false, false, false, false] rfl rfl (any_of HT_.out (by kernel_rfl)) (fun _ _ _ h => h) (Or.inl ⟨by rfl, ?_⟩) ?_ ?_
        rotate_left
        · intro w'
          go_simp
          with_reducible rfl
        rotate_left
        · simp only [Act.put, List.setIfInBounds_toArray, List.set_cons_zero, List.set_cons_succ, i64_w, i32_w]
          rfl
        refine pure_ (i := 10) (N := some 27) (v := ?_) (a' := ?_) #[true, true, true, true, false, true, false, false, true, true, true, false, false, false, false, false, false] rfl rfl (any_of HT_.out (by kernel_rfl)) (fun _ _ _ h => h) (Or.inl ⟨by rfl, ?_⟩) ?_ ?_
        rotate_left
        · intro w'
          go_simp
          with_reducible rfl
        rotate_left
        · simp only [Act.put, List.setIfInBounds_toArray, List.set_cons_zero, List.set_cons_succ, i64_w, i32_w]
          rfl
        refine pure_ (i := 11) (N := some 28) (v := ?_) (a' := ?_) #[true, true, true, true, false, true, false, false, true, true, true, true, false, false, false, false, false] rfl rfl (any_of HT_.out (by kernel_rfl)) (fun _ _ _ h => h) (Or.inl ⟨by rfl, ?_⟩) ?_ ?_
        rotate_left
        · intro w'
          go_simp
          with_reducible rfl
        rotate_left
        · simp only [Act.put, List.setIfInBounds_toArray, List.set_cons_zero, List.set_cons_succ, i64_w, i32_w]
          rfl
        refine take_ (i := 4) (N := some 21) (v := ?_) (a' := ?_) #[true, true, true, true, true, true, false, false, true, true, true, true, false, false, false, false, false] rfl rfl (take_ofW HT_.out HW_.out (by kernel_rfl)) (fun _ _ _ h => h) (Or.inl ⟨by rfl, ?_⟩) hHeld ?_ ?_
        rotate_left
        · rintro w' ⟨s0, s1, s2, s3, s4, s5, s6⟩
          go_simp
          with_reducible rfl
        rotate_left
        · simp only [Act.put, List.setIfInBounds_toArray, List.set_cons_zero, List.set_cons_succ, i64_w, i32_w]
          rfl
        refine take_ (i := 6) (N := some 23) (v := ?_) (a' := ?_) #[true, true, true, true, true, true, true, false, true, true, true, true, false, false, false, false, false] rfl rfl (take_ofW HT_.out HW_.out (by kernel_rfl)) (fun _ _ _ h => h) (Or.inl ⟨by rfl, ?_⟩) hHeld ?_ ?_
        rotate_left
        · rintro w' ⟨s0, s1, s2, s3, s4, s5, s6⟩
          go_simp
          with_reducible rfl
        rotate_left
        · simp only [Act.put, List.setIfInBounds_toArray, List.set_cons_zero, List.set_cons_succ, i64_w, i32_w]
          rfl
        refine pure_ (i := 7) (N := some 24) (v := ?_) (a' := ?_) #[true, true, true, true, true, true, true, true, true, true, true, true, false, false, false, false, false] rfl rfl (any_of HT_.out (by kernel_rfl)) (fun _ _ _ h => h) (Or.inl ⟨by rfl, ?_⟩) ?_ ?_
        rotate_left
        · intro w'
          go_simp
          with_reducible rfl
        rotate_left
        · simp only [Act.put, List.setIfInBounds_toArray, List.set_cons_zero, List.set_cons_succ, i64_w, i32_w]
          rfl
        refine take_ (i := 12) (N := some 29) (v := ?_) (a' := ?_) #[true, true, true, true, true, true, true, true, true, true, true, true, true, false, false, false, false] rfl rfl (take_ofW HT_.out HW_.out (by kernel_rfl)) (fun _ _ _ h => h) (Or.inl ⟨by rfl, ?_⟩) hHeld ?_ ?_
        rotate_left
        · rintro w' ⟨s0, s1, s2, s3, s4, s5, s6⟩
          go_simp
          with_reducible rfl
        rotate_left
        · simp only [Act.put, List.setIfInBounds_toArray, List.set_cons_zero, List.set_cons_succ, i64_w, i32_w]
          rfl
        refine pure_ (i := 13) (N := some 30) (v := ?_) (a' := ?_) #[true, true, true, true, true, true, true, true, true, true, true, true, true, true, false, false, false] rfl rfl (any_of HT_.out (by kernel_rfl)) (fun _ _ _ h => h) (Or.inl ⟨by rfl, ?_⟩) ?_ ?_
        rotate_left
        · intro w'
          go_simp
          with_reducible rfl
        rotate_left
        · simp only [Act.put, List.setIfInBounds_toArray, List.set_cons_zero, List.set_cons_succ, i64_w, i32_w]
          rfl
        refine pure_ (i := 14) (N := some 31) (v := ?_) (a' := ?_) #[true, true, true, true, true, true, true, true, true, true, true, true, true, true, true, false, false] rfl rfl (any_of HT_.out (by kernel_rfl)) (fun _ _ _ h => h) (Or.inl ⟨by rfl, ?_⟩) ?_ ?_
        rotate_left
        · intro w'
          go_simp
          with_reducible rfl
        rotate_left
        · simp only [Act.put, List.setIfInBounds_toArray, List.set_cons_zero, List.set_cons_succ, i64_w, i32_w]
          rfl
        refine pure_ (i := 15) (N := some 32) (v := ?_) (a' := ?_) #[true, true, true, true, true, true, true, true, true, true, true, true, true, true, true, true, false] rfl rfl (any_of HT_.out (by kernel_rfl)) (fun _ _ _ h => h) (Or.inl ⟨by rfl, ?_⟩) ?_ ?_
        rotate_left
        · intro w'
          go_simp
          with_reducible rfl
        rotate_left
        · simp only [Act.put, List.setIfInBounds_toArray, List.set_cons_zero, List.set_cons_succ, i64_w, i32_w]
          rfl
        refine last_ (i := 16) (N := none) #[true, true, true, true, true, true, true, true, true, true, true, true, true, true, true, true, true] rfl rfl (one_of HT_.out (by kernel_rfl)) (by decide) (fun K hK => ?_)
        refine skip_ (w1 := ?_) (by rfl) rfl ?_ ?_
        rotate_left
        · go_simp
          rw [if_neg (by rw [blk_frozen HI0.out.1 4]; decide)]
        refine hK.out _ _ ?_
        clear hK K
        have n0_ := Aside0.mk (IsS43.set_4 HI0.out (IntKind.u64.wrap (Int.tdiv (IntKind.u64.wrap (t119 * a2_1)) t121)))
        have n1_ := Aside0.mk (below_set (j := 4) (v := .int .u64 (IntKind.u64.wrap (Int.tdiv (IntKind.u64.wrap (t119 * a2_1)) t121))) HB.out (IsS43.ge HI0.out))
        have n2_ := Aside0.mk (KeepBut.set_ HK.out 4 (.int .u64 (IntKind.u64.wrap (Int.tdiv (IntKind.u64.wrap (t119 * a2_1)) t121))))
        have n3_ := Aside0.mk (blk_far BK114.out (p := ⟨g, 4, none⟩) NB114_0.out (.int .u64 (IntKind.u64.wrap (Int.tdiv (IntKind.u64.wrap (t119 * a2_1)) t121))))
        clear HI0 HB HK BK114
        have HI0 := n0_
        have HB := n1_
        have HK := n2_
        have BK114 := n3_
        clear n0_ n1_ n2_ n3_ hHeld
        generalize w15.setCell ⟨g, 4, none⟩ (.int .u64 (IntKind.u64.wrap (Int.tdiv (IntKind.u64.wrap (t119 * a2_1)) t121))) = w15_ at HI0 HB HK BK114 ⊢
        refine done_ (done_of HT_.out (by kernel_rfl)) ?_
        have hcz16_0 : w15_.cell? ⟨gb114, 0, none⟩ = some (.int .u64 a2_0) := (blk_cell BK114.out 0).trans rfl
        have hcz16_1 : w15_.cell? ⟨gb114, 1, none⟩ = some (.int .u64 a2_1) := (blk_cell BK114.out 1).trans rfl
        have hfz16_0 := blk_frozen BK114.out 0
        have hfz16_1 := blk_frozen BK114.out 1
        obtain ⟨HGz17, hgz17⟩ := HI0.out
        have hcz17_0 := cellS43_2 HGz17
        have hcz17_1 := cellS43_3 HGz17
        have hcz17_2 := cellS43_4 HGz17
        have hcz17_3 := cellS43_5 HGz17
        have hcz17_4 := cellS43_6 HGz17
        have hfz17_0 := blk_frozen HGz17 2
        have hfz17_1 := blk_frozen HGz17 3
        have hfz17_2 := blk_frozen HGz17 4
        have hfz17_3 := blk_frozen HGz17 5
        have hfz17_4 := blk_frozen HGz17 6
        clear HGz17 hgz17
        try go_wp2
        go_ret
        exact ⟨by first | rfl | (simp [errW_none, errW_some] <;> rfl) | (simp [*, errW_none, errW_some] <;> rfl), by repeat (first | (with_reducible first | exact HI0.out | apply IsS43.alloc | apply IsS43.drewN | apply IsS43.drew | apply IsS43.set_2 | apply IsS43.set_3 | apply IsS43.set_4 | apply IsS43.set_5 | apply IsS43.set_6 | refine IsS43.far ?_ NB0_114.out _) | exact HI0.out), by repeat (first | (with_reducible first | exact HB.out | apply below_alloc | apply pw_below_drewN | apply below_drew1 | refine below_set ?_ (IsS43.ge HI0.out) | refine below_set ?_ GE114.out) | exact HB.out), by repeat (first | (with_reducible first | exact HK.out | apply KeepBut.set_ | apply keep_drewN | apply keep_drew | apply keep_alloc | refine keep_far ?_ GW114.out _) | exact HK.out)⟩
    · replace c7 := Bool.eq_false_iff.mpr c7
      subst c7
      have H1 : (some (1, s0_0, s0_1, s0_2, s0_3, s0_4)) = some (r1, r2, r3, r4, r5, r6) := by rw [if_neg (show ¬ (false = true) by decide)] at H; exact H
      clear H
      have H := H1
      clear H1
      simp only [Option.some.injEq, Prod.mk.injEq] at H
      obtain ⟨rfl, rfl, rfl, rfl, rfl, rfl⟩ := H
      go_enter Tryd.func87, Tryd.ntmps87
      go_wp2_with (first | ((with_reducible refine gate_dst (N := 5) rfl ?_); refine box_event ?hg (N := 5) ?hd (cs := #[.int .u64 a2_0, .int .u64 a2_1]) (t := 39) ?hr ?_; (case hd => rfl); (case hg => rfl); (case hr => first | (go_simp; done) | (go_simp; rfl)); intro gb114 hg w18 hbox hb; have n0_ := Aside0.mk (IsS43.below (by repeat (first | (with_reducible first | exact HI0.out | apply IsS43.alloc | apply IsS43.drewN | apply IsS43.drew | apply IsS43.set_2 | apply IsS43.set_3 | apply IsS43.set_4 | apply IsS43.set_5 | apply IsS43.set_6) | exact HI0.out)) hb); have n1_ := Aside0.mk (KeepBut.trans (by repeat (first | (with_reducible first | exact HK.out | apply KeepBut.set_ | apply keep_drewN | apply keep_drew | apply keep_alloc) | exact HK.out)) (KeepBut.of_below hb g none) (.inl rfl)); have n2_ := Aside0.mk (below_step (by repeat (first | (with_reducible first | exact HB.out | apply below_alloc | apply pw_below_drewN | apply below_drew1 | refine below_set ?_ (IsS43.ge HI0.out)) | exact HB.out)) hb); have n3_ := Aside0.mk (hbox); have n4_ := Aside0.mk ((by rw [hg]; exact (keep_size (w := w) (g := g) (row := none) (by repeat (first | (with_reducible first | exact HK.out | apply KeepBut.set_ | apply keep_drewN | apply keep_drew | apply keep_alloc) | exact HK.out))) : w.heap.size ≤ gb114)); have n5_ := Aside0.mk ((Nat.le_trans HW0.out (by rw [hg]; exact (keep_size (w := w) (g := g) (row := none) (by repeat (first | (with_reducible first | exact HK.out | apply KeepBut.set_ | apply keep_drewN | apply keep_drew | apply keep_alloc) | exact HK.out))) : w.heap.size ≤ gb114) : w0.heap.size ≤ gb114)); have n6_ := Aside0.mk ((by rw [hg]; exact Nat.ne_of_lt (IsS43.lt (show IsS43 w0 _ g mo po s0_0 s0_1 s0_2 s0_3 s0_4 from by repeat (first | (with_reducible first | exact HI0.out | apply IsS43.alloc | apply IsS43.drewN | apply IsS43.drew | apply IsS43.set_2 | apply IsS43.set_3 | apply IsS43.set_4 | apply IsS43.set_5 | apply IsS43.set_6) | exact HI0.out))) : g ≠ gb114)); have n7_ := Aside0.mk ((by rw [hg]; exact Nat.ne_of_gt (IsS43.lt (show IsS43 w0 _ g mo po s0_0 s0_1 s0_2 s0_3 s0_4 from by repeat (first | (with_reducible first | exact HI0.out | apply IsS43.alloc | apply IsS43.drewN | apply IsS43.drew | apply IsS43.set_2 | apply IsS43.set_3 | apply IsS43.set_4 | apply IsS43.set_5 | apply IsS43.set_6) | exact HI0.out))) : gb114 ≠ g)); clear HI0; clear HK; clear HB; have HI0 := n0_; have HK := n1_; have HB := n2_; have BK114 := n3_; have GW114 := n4_; have GE114 := n5_; have NB0_114 := n6_; have NB114_0 := n7_; clear n0_ n1_ n2_ n3_ n4_ n5_ n6_ n7_; clear hb hbox hg; have hnb19 := NB114_0.out; have hnc19 := NB0_114.out; have hcz20_0 : w18.cell? ⟨gb114, 0, none⟩ = some (.int .u64 a2_0) := (blk_cell BK114.out 0).trans rfl; have hcz20_1 : w18.cell? ⟨gb114, 1, none⟩ = some (.int .u64 a2_1) := (blk_cell BK114.out 1).trans rfl; have hfz20_0 := blk_frozen BK114.out 0; have hfz20_1 := blk_frozen BK114.out 1) | (go_at_call 109; (with_reducible refine (tikref1_May.calls a2_0 a2_1 false _ A6.out).mono ?_); rintro e w21 ⟨rfl, hb⟩; have n0_ := Aside0.mk (IsS43.below (by repeat (first | (with_reducible first | exact HI0.out | apply IsS43.alloc | apply IsS43.drewN | apply IsS43.drew | apply IsS43.set_2 | apply IsS43.set_3 | apply IsS43.set_4 | apply IsS43.set_5 | apply IsS43.set_6 | refine IsS43.far ?_ NB0_114.out _) | exact HI0.out)) hb); have n1_ := Aside0.mk (blk_below (g := gb114) (o := .cells #[.int .u64 a2_0, .int .u64 a2_1] 39 (0, 0)) (by (with_reducible repeat (first | refine blk_drewN ?_ _ | refine blk_drew ?_ | refine blk_alloc ?_ _)); exact BK114.out) hb); have n2_ := Aside0.mk (KeepBut.trans (by repeat (first | (with_reducible first | exact HK.out | apply KeepBut.set_ | apply keep_drewN | apply keep_drew | apply keep_alloc | refine keep_far ?_ GW114.out _) | exact HK.out)) (KeepBut.of_below hb g none) (.inl rfl)); have n3_ := Aside0.mk (below_step (by repeat (first | (with_reducible first | exact HB.out | apply below_alloc | apply pw_below_drewN | apply below_drew1 | refine below_set ?_ (IsS43.ge HI0.out) | refine below_set ?_ GE114.out) | exact HB.out)) hb); clear HI0; clear BK114; clear HK; clear HB; have HI0 := n0_; have BK114 := n1_; have HK := n2_; have HB := n3_; clear n0_ n1_ n2_ n3_; (try clear hb); (try clear hb2); (try clear hk); (try clear hi)))
      go_ret
      exact ⟨by first | rfl | (simp [errW_none, errW_some] <;> rfl) | (simp [*, errW_none, errW_some] <;> rfl), by repeat (first | (with_reducible first | exact HI0.out | apply IsS43.alloc | apply IsS43.drewN | apply IsS43.drew | apply IsS43.set_2 | apply IsS43.set_3 | apply IsS43.set_4 | apply IsS43.set_5 | apply IsS43.set_6 | refine IsS43.far ?_ NB0_114.out _) | exact HI0.out), by repeat (first | (with_reducible first | exact HB.out | apply below_alloc | apply pw_below_drewN | apply below_drew1 | refine below_set ?_ (IsS43.ge HI0.out) | refine below_set ?_ GE114.out) | exact HB.out), by repeat (first | (with_reducible first | exact HK.out | apply KeepBut.set_ | apply keep_drewN | apply keep_drew | apply keep_alloc | refine keep_far ?_ GW114.out _) | exact HK.out)⟩
end Go.Proofs.YtlgfmmkabnbllaaDoor.PK
namespace Go.Proofs.YtlgfmmkabnbllaaDoor.Hand
open Go.RowKit Go.Proofs.YtlgfmmkabnbllaaDoorW.PrintWords Go.Proofs.YtlgfmmkabnbllaaDoorW.PrintLast Go.Proofs.YtlgfmmkabnbllaaDoorW.PrintMore Go.Proofs.YtlgfmmkabnbllaaDoor.PD Go.Proofs.YtlgfmmkabnbllaaDoor.PK
set_option linter.unusedSimpArgs false
set_option linter.unusedVariables false
abbrev RSt := Int × Int × Int × Int × Int × Int × Int
theorem rdk_cells {w0 w : World} {g : Nat} {s0 s1 s2 s3 s4 s5 s6 : Int} (h : IsS43 w0 w g s0 s1 s2 s3 s4 s5 s6) :
    w.cell? ⟨g, 0, none⟩ = some (.int .i64 s0) ∧ w.cell? ⟨g, 1, none⟩ = some (.int .u64 s1) ∧ w.frozen? ⟨g, 0, none⟩ = false ∧ w.frozen? ⟨g, 1, none⟩ = false :=
  ⟨cellS43_0 h.1, cellS43_1 h.1, blk_frozen h.1 0, blk_frozen h.1 1⟩
def refMay.f (a0 a1 a2 : Int) : Option Bool := tikref22_may.f a0 a1 a2
theorem refMay.calls (a0 a1 a2 : Int) (r : Bool) (w : World) (h : refMay.f a0 a1 a2 = some r) :
    Calls Tryd.prog 84 #[.int .u64 a0, .int .u64 a1, .int .u64 a2] w fun e w' => e = .returned (.bool r) ∧ Below w.heap.size w w' :=
  (tikref22_may.calls a0 a1 a2 r w h).mono fun _ _ ⟨h1, h2⟩ => ⟨h1, h2.below⟩
def tikref22_Deck_stand.f (s0 s1 s2 s3 s4 s5 s6 a1 a2 : Int) : Option RSt :=
  (tikref22_Clock_Set.f s2 s3 s4 s5 s6 a1 a2).bind fun q => some (s0, a2, q.2.1, q.2.2.1, q.2.2.2.1, q.2.2.2.2.1, q.2.2.2.2.2)
set_option maxHeartbeats 8000000 in
theorem tikref22_Deck_stand.calls (g : Nat) (s0 s1 s2 s3 s4 s5 s6 a1 a2 : Int) (r1 r2 r3 r4 r5 r6 r7 : Int) (w0 w : World) (hI : IsS43 w0 w g s0 s1 s2 s3 s4 s5 s6) (hB : Below w0.heap.size w0 w) (h : tikref22_Deck_stand.f s0 s1 s2 s3 s4 s5 s6 a1 a2 = some (r1, r2, r3, r4, r5, r6, r7)) :
    Calls Tryd.prog 85 #[.pointer (some ⟨g, 0, none⟩), .int .u64 a1, .int .u64 a2] w fun e w' => e = .returned (.tuple #[]) ∧ IsS43 w0 w' g r1 r2 r3 r4 r5 r6 r7 ∧ Below w0.heap.size w0 w' ∧ KeepBut w w' g none := by
  unfold tikref22_Deck_stand.f at h
  obtain ⟨⟨q1, q2, q3, q4, q5, q6⟩, hq, h⟩ := Option.bind_eq_some_iff.mp h
  obtain ⟨rfl, rfl, rfl, rfl, rfl, rfl, rfl⟩ : s0 = r1 ∧ a2 = r2 ∧ q2 = r3 ∧ q3 = r4 ∧ q4 = r5 ∧ q5 = r6 ∧ q6 = r7 := by simpa using Option.some.inj h
  obtain ⟨c0, c1, f0, f1⟩ := rdk_cells hI
  have HI := Aside0.mk hI
  have HB := Aside0.mk hB
  have HQ := Aside0.mk hq
  clear hI hB hq h
  go_enter Tryd.func85, Tryd.ntmps85
  go_wp2_with fail
  refine (tikref22_Clock_Set.calls g s0 a2 s2 s3 s4 s5 s6 a1 a2 q1 q2 q3 q4 q5 q6 w0 _ (HI.out.set_1 a2) (below_set HB.out HI.out.ge) HQ.out).mono ?_
  rintro e1 w1 ⟨rfl, hI1, hB1, hK1⟩
  have HI1 := Aside0.mk hI1
  have HB1 := Aside0.mk hB1
  have HK1 := Aside0.mk hK1
  clear hI1 hB1 hK1 c0 c1 f0 f1
  go_wp2_with fail
  first | go_end0 | ((try simp only [Exit.inBlock, Exit.then]); refine bodyPost_ret (_root_.Go.results_none rfl _ _ _) rfl ?_)
  exact ⟨rfl, HI1.out, HB1.out, KeepBut.trans (KeepBut.set_ (KeepBut.refl w g none) 1 (.int .u64 a2)) HK1.out (.inl rfl)⟩
def tikref22_Deck_Tick.f (k : Nat) (s0 s1 s2 s3 s4 s5 s6 a1 a2 a3 : Int) : Option RSt :=
  (tikref22_may.f a1 a2 a3).bind fun b => if b = true then
    if s0 = 1 then (if s1 < a2 then tikref22_Deck_stand.f s0 s1 s2 s3 s4 s5 s6 a1 a2 else some (s0, s1, s2, s3, s4, s5, s6))
    else if s0 = 2 then
      (tikref22_Clock_Go.f k s2 s3 s4 s5 s6 a1).bind fun q =>
        if min (max q.1 a2) a3 = q.1 then some (if min (max q.1 a2) a3 = a3 then 0 else s0, min (max q.1 a2) a3, q.2.1, q.2.2.1, q.2.2.2.1, q.2.2.2.2.1, q.2.2.2.2.2)
        else (tikref22_Clock_Set.f q.2.1 q.2.2.1 q.2.2.2.1 q.2.2.2.2.1 q.2.2.2.2.2 a1 (min (max q.1 a2) a3)).bind fun z =>
          some (if min (max q.1 a2) a3 = a3 then 0 else s0, min (max q.1 a2) a3, z.2.1, z.2.2.1, z.2.2.2.1, z.2.2.2.2.1, z.2.2.2.2.2)
    else some (s0, s1, s2, s3, s4, s5, s6)
  else some (s0, s1, s2, s3, s4, s5, s6)
set_option maxHeartbeats 8000000 in
set_option maxRecDepth 100000 in
theorem tikref22_Deck_Tick.calls (k : Nat) (g : Nat) (s0 s1 s2 s3 s4 s5 s6 a1 a2 a3 : Int) (r1 r2 r3 r4 r5 r6 r7 : Int) (w0 w : World) (hI : IsS43 w0 w g s0 s1 s2 s3 s4 s5 s6) (hB : Below w0.heap.size w0 w) (h : tikref22_Deck_Tick.f k s0 s1 s2 s3 s4 s5 s6 a1 a2 a3 = some (r1, r2, r3, r4, r5, r6, r7)) :
    Calls Tryd.prog 50 #[.pointer (some ⟨g, 0, none⟩), .int .u64 a1, .int .u64 a2, .int .u64 a3] w fun e w' => e = .returned (.tuple #[]) ∧ IsS43 w0 w' g r1 r2 r3 r4 r5 r6 r7 ∧ Below w0.heap.size w0 w' ∧ KeepBut w w' g none := by
  unfold tikref22_Deck_Tick.f at h
  obtain ⟨b, hb, h'⟩ := Option.bind_eq_some_iff.mp h
  clear h
  have h := h'
  clear h'
  have HI := Aside0.mk hI
  have HB := Aside0.mk hB
  have HMay := Aside0.mk hb
  clear hI hB hb
  go_enter Tryd.func50, Tryd.ntmps50
  go_wp2_with fail
  refine (tikref22_may.calls a1 a2 a3 b _ HMay.out).mono ?_
  rintro e1 w1 ⟨rfl, hd⟩
  have HI1 := Aside0.mk (HI.out.below hd.below)
  have HB1 := Aside0.mk (below_step HB.out hd.below)
  have K1 := Aside0.mk (KeepBut.of_below hd.below g none)
  obtain ⟨c0, c1, f0, f1⟩ := rdk_cells HI1.out
  clear hd
  cases b
  · rw [if_neg (by decide)] at h
    obtain ⟨rfl, rfl, rfl, rfl, rfl, rfl, rfl⟩ : s0 = r1 ∧ s1 = r2 ∧ s2 = r3 ∧ s3 = r4 ∧ s4 = r5 ∧ s5 = r6 ∧ s6 = r7 := by simpa using Option.some.inj h
    go_wp2_with fail
    first | go_end0 | ((try simp only [Exit.inBlock, Exit.then]); refine bodyPost_ret (_root_.Go.results_none rfl _ _ _) rfl ?_)
    exact ⟨rfl, HI1.out, HB1.out, K1.out⟩
  · rw [if_pos rfl] at h
    by_cases h1 : s0 = 1
    · rw [if_pos h1] at h
      have e1 : (s0 == 1) = true := by simp [h1]
      by_cases h2 : s1 < a2
      · rw [if_pos h2] at h
        have e2 : decide (s1 < a2) = true := decide_eq_true h2
        have HH := Aside0.mk h
        clear h h1 h2
        go_wp2_with fail
        refine (tikref22_Deck_stand.calls g s0 s1 s2 s3 s4 s5 s6 a1 a2 r1 r2 r3 r4 r5 r6 r7 w0 _ HI1.out HB1.out HH.out).mono ?_
        rintro e3 w2 ⟨rfl, hI2, hB2, hK2⟩
        have HI2 := Aside0.mk hI2
        have HB2 := Aside0.mk hB2
        have HK2 := Aside0.mk hK2
        clear hI2 hB2 hK2 c0 c1 f0 f1
        go_wp2_with fail
        first | go_end0 | ((try simp only [Exit.inBlock, Exit.then]); refine bodyPost_ret (_root_.Go.results_none rfl _ _ _) rfl ?_)
        exact ⟨rfl, HI2.out, HB2.out, KeepBut.trans K1.out HK2.out (.inl rfl)⟩
      · rw [if_neg h2] at h
        have e2 : decide (s1 < a2) = false := decide_eq_false h2
        obtain ⟨rfl, rfl, rfl, rfl, rfl, rfl, rfl⟩ : s0 = r1 ∧ s1 = r2 ∧ s2 = r3 ∧ s3 = r4 ∧ s4 = r5 ∧ s5 = r6 ∧ s6 = r7 := by simpa using Option.some.inj h
        clear h h1 h2
        go_wp2_with fail
        first | go_end0 | ((try simp only [Exit.inBlock, Exit.then]); refine bodyPost_ret (_root_.Go.results_none rfl _ _ _) rfl ?_)
        exact ⟨rfl, HI1.out, HB1.out, K1.out⟩
    · rw [if_neg h1] at h
      have e1 : (s0 == 1) = false := by simp [h1]
      by_cases h2 : s0 = 2
      · rw [if_pos h2] at h
        have e2 : (s0 == 2) = true := by simp [h2]
        obtain ⟨⟨q1, q2, q3, q4, q5, q6⟩, hq, h'⟩ := Option.bind_eq_some_iff.mp h
        clear h
        have h := h'
        clear h'
        dsimp only at h
        have HQ := Aside0.mk hq
        clear hq h1 h2
        go_wp2_with fail
        refine (tikref22_Clock_Go.calls k g s0 s1 s2 s3 s4 s5 s6 a1 q1 q2 q3 q4 q5 q6 w0 _ HI1.out HB1.out HQ.out).mono ?_
        rintro e3 w2 ⟨rfl, hI2, hB2, hK2⟩
        have HI2 := Aside0.mk hI2
        have HB2 := Aside0.mk hB2
        have HK2 := Aside0.mk (KeepBut.trans K1.out hK2 (.inl rfl))
        clear hI2 hB2 hK2 c0 c1 f0 f1
        obtain ⟨c0, c1, f0, f1⟩ := rdk_cells HI2.out
        obtain ⟨m, hm⟩ : ∃ m, (if q1 < a2 then a2 else q1) = m := ⟨_, rfl⟩
        obtain ⟨p, hp⟩ : ∃ p, (if a3 < m then a3 else m) = p := ⟨_, rfl⟩
        have hmp : min (max q1 a2) a3 = p := by
          rw [← hp, ← hm]
          repeat' split
          all_goals omega
        rw [hmp] at h
        clear hmp
        by_cases h3 : p = q1
        · rw [if_pos h3] at h
          have e3 : (p != q1) = false := by simp [h3]
          by_cases h4 : p = a3
          · rw [if_pos h4] at h
            have e4 : (p == a3) = true := by simp [h4]
            obtain ⟨rfl, rfl, rfl, rfl, rfl, rfl, rfl⟩ : 0 = r1 ∧ p = r2 ∧ q2 = r3 ∧ q3 = r4 ∧ q4 = r5 ∧ q5 = r6 ∧ q6 = r7 := by simpa using Option.some.inj h
            clear h h3 h4
            go_wp2_with fail
            first | go_end0 | ((try simp only [Exit.inBlock, Exit.then]); refine bodyPost_ret (_root_.Go.results_none rfl _ _ _) rfl ?_)
            exact ⟨rfl, (HI2.out.set_1 p).set_0 0, below_set (below_set HB2.out HI2.out.ge) HI2.out.ge, (HK2.out.set_ 1 _).set_ 0 _⟩
          · rw [if_neg h4] at h
            have e4 : (p == a3) = false := by simp [h4]
            obtain ⟨rfl, rfl, rfl, rfl, rfl, rfl, rfl⟩ : s0 = r1 ∧ p = r2 ∧ q2 = r3 ∧ q3 = r4 ∧ q4 = r5 ∧ q5 = r6 ∧ q6 = r7 := by simpa using Option.some.inj h
            clear h h3 h4
            go_wp2_with fail
            first | go_end0 | ((try simp only [Exit.inBlock, Exit.then]); refine bodyPost_ret (_root_.Go.results_none rfl _ _ _) rfl ?_)
            exact ⟨rfl, HI2.out.set_1 p, below_set HB2.out HI2.out.ge, HK2.out.set_ 1 _⟩
        · rw [if_neg h3] at h
          have e3 : (p != q1) = true := by simp [h3]
          obtain ⟨⟨z1, z2, z3, z4, z5, z6⟩, hz, h'⟩ := Option.bind_eq_some_iff.mp h
          clear h
          have h := h'
          clear h'
          dsimp only at h
          have HZ := Aside0.mk hz
          clear hz h3
          have HI3 := Aside0.mk (HI2.out.set_1 p)
          have HB3 := Aside0.mk (below_set (j := 1) (v := .int .u64 p) HB2.out HI2.out.ge)
          have HK3 := Aside0.mk (HK2.out.set_ 1 (.int .u64 p))
          go_wp2_with fail
          clear c0 c1 f0 f1
          generalize w2.setCell ⟨g, 1, none⟩ (.int .u64 p) = w3 at *
          obtain ⟨c0, c1, f0, f1⟩ := rdk_cells HI3.out
          go_still_tail 8, (by kernel_rfl)
          change wpList _ _ _ _ _ w3.drew
          go_wp2_with fail
          refine (tikref22_Clock_Set.calls g s0 p q2 q3 q4 q5 q6 a1 p z1 z2 z3 z4 z5 z6 w0 _ HI3.out.drew (below_drew1 HB3.out) HZ.out).mono ?_
          rintro e4 w4 ⟨rfl, hI4, hB4, hK4⟩
          have HI4 := Aside0.mk hI4
          have HB4 := Aside0.mk hB4
          have HK4 := Aside0.mk (KeepBut.trans (keep_drew HK3.out) hK4 (.inl rfl))
          clear hI4 hB4 hK4 c0 c1 f0 f1
          obtain ⟨c0, c1, f0, f1⟩ := rdk_cells HI4.out
          by_cases h4 : p = a3
          · rw [if_pos h4] at h
            have e4 : (p == a3) = true := by simp [h4]
            obtain ⟨rfl, rfl, rfl, rfl, rfl, rfl, rfl⟩ : 0 = r1 ∧ p = r2 ∧ z2 = r3 ∧ z3 = r4 ∧ z4 = r5 ∧ z5 = r6 ∧ z6 = r7 := by simpa using Option.some.inj h
            clear h h4
            go_wp2_with fail
            first | go_end0 | ((try simp only [Exit.inBlock, Exit.then]); refine bodyPost_ret (_root_.Go.results_none rfl _ _ _) rfl ?_)
            exact ⟨rfl, HI4.out.set_0 0, below_set HB4.out HI4.out.ge, HK4.out.set_ 0 _⟩
          · rw [if_neg h4] at h
            have e4 : (p == a3) = false := by simp [h4]
            obtain ⟨rfl, rfl, rfl, rfl, rfl, rfl, rfl⟩ : s0 = r1 ∧ p = r2 ∧ z2 = r3 ∧ z3 = r4 ∧ z4 = r5 ∧ z5 = r6 ∧ z6 = r7 := by simpa using Option.some.inj h
            clear h h4
            go_wp2_with fail
            first | go_end0 | ((try simp only [Exit.inBlock, Exit.then]); refine bodyPost_ret (_root_.Go.results_none rfl _ _ _) rfl ?_)
            exact ⟨rfl, HI4.out, HB4.out, HK4.out⟩
      · rw [if_neg h2] at h
        have e2 : (s0 == 2) = false := by simp [h2]
        obtain ⟨rfl, rfl, rfl, rfl, rfl, rfl, rfl⟩ : s0 = r1 ∧ s1 = r2 ∧ s2 = r3 ∧ s3 = r4 ∧ s4 = r5 ∧ s5 = r6 ∧ s6 = r7 := by simpa using Option.some.inj h
        clear h h1 h2
        go_wp2_with fail
        first | go_end0 | ((try simp only [Exit.inBlock, Exit.then]); refine bodyPost_ret (_root_.Go.results_none rfl _ _ _) rfl ?_)
        exact ⟨rfl, HI1.out, HB1.out, K1.out⟩
end Go.Proofs.YtlgfmmkabnbllaaDoor.Hand
namespace Go.Proofs.YtlgfmmkabnbllaaDoor.Hand
open Go.RowKit Go.Proofs.YtlgfmmkabnbllaaDoorW.PrintWords Go.Proofs.YtlgfmmkabnbllaaDoorW.PrintLast Go.Proofs.YtlgfmmkabnbllaaDoorW.PrintMore Go.Proofs.YtlgfmmkabnbllaaDoor.PD Go.Proofs.YtlgfmmkabnbllaaDoor.PK
set_option linter.unusedSimpArgs false
set_option linter.unusedVariables false
def tikref22_Deck_Pause.f (k : Nat) (s0 s1 s2 s3 s4 s5 s6 a1 a2 a3 : Int) : Option (Int × RSt) := (refMay.f a1 a2 a3).bind fun t => if t = true then
  if s0 = 2 then (tikref22_Deck_Tick.f k s0 s1 s2 s3 s4 s5 s6 a1 a2 a3).bind fun c => if c.1 = 0 then (tikref22_Deck_stand.f c.1 c.2.1 c.2.2.1 c.2.2.2.1 c.2.2.2.2.1 c.2.2.2.2.2.1 c.2.2.2.2.2.2 a1 a3).bind fun b => some (0, 1, b.2.1, b.2.2.1, b.2.2.2.1, b.2.2.2.2.1, b.2.2.2.2.2.1, b.2.2.2.2.2.2) else some (0, 1, c.2.1, c.2.2.1, c.2.2.2.1, c.2.2.2.2.1, c.2.2.2.2.2.1, c.2.2.2.2.2.2)
  else if s0 = 0 then (tikref22_Deck_stand.f s0 s1 s2 s3 s4 s5 s6 a1 a3).bind fun b => some (0, 1, b.2.1, b.2.2.1, b.2.2.2.1, b.2.2.2.2.1, b.2.2.2.2.2.1, b.2.2.2.2.2.2) else some (0, 1, s1, s2, s3, s4, s5, s6)
  else some (1, s0, s1, s2, s3, s4, s5, s6)
def tikref22_Deck_Play.f (s0 s1 s2 s3 s4 s5 s6 a1 a2 a3 : Int) : Option (Int × RSt) := (refMay.f a1 a2 a3).bind fun t => if t = true then
  if s0 = 0 then some (13, s0, s1, s2, s3, s4, s5, s6) else if s0 = 1 then (tikref22_Deck_stand.f 2 s1 s2 s3 s4 s5 s6 a1 (mn (mx s1 a2) a3)).bind fun b => some (0, b.1, b.2.1, b.2.2.1, b.2.2.2.1, b.2.2.2.2.1, b.2.2.2.2.2.1, b.2.2.2.2.2.2) else some (0, s0, s1, s2, s3, s4, s5, s6)
  else some (1, s0, s1, s2, s3, s4, s5, s6)
def tikref22_Deck_Seek.f (s0 s1 s2 s3 s4 s5 s6 a1 a2 a3 a4 : Int) : Option (Int × RSt) := (refMay.f a1 a2 a3).bind fun t => if t = true then
  if a4 < a2 then some (12, s0, s1, s2, s3, s4, s5, s6) else (tikref22_Deck_stand.f s0 s1 s2 s3 s4 s5 s6 a1 (mn a4 a3)).bind fun b => if b.1 = 0 then some (0, 1, b.2.1, b.2.2.1, b.2.2.2.1, b.2.2.2.2.1, b.2.2.2.2.2.1, b.2.2.2.2.2.2) else some (0, b.1, b.2.1, b.2.2.1, b.2.2.2.1, b.2.2.2.2.1, b.2.2.2.2.2.1, b.2.2.2.2.2.2)
  else some (1, s0, s1, s2, s3, s4, s5, s6)
set_option maxHeartbeats 8000000 in
set_option maxRecDepth 100000 in
theorem tikref22_Deck_Play.calls (g : Nat) (s0 s1 s2 s3 s4 s5 s6 a1 a2 a3 : Int) (r1 r2 r3 r4 r5 r6 r7 r8 : Int) (w0 w : World) (hI : IsS43 w0 w g s0 s1 s2 s3 s4 s5 s6) (hB : Below w0.heap.size w0 w) (h : tikref22_Deck_Play.f s0 s1 s2 s3 s4 s5 s6 a1 a2 a3 = some (r1, r2, r3, r4, r5, r6, r7, r8)) :
    Calls Tryd.prog 47 #[.pointer (some ⟨g, 0, none⟩), .int .u64 a1, .int .u64 a2, .int .u64 a3] w fun e w' => e = .returned (.int .i64 r1) ∧ IsS43 w0 w' g r2 r3 r4 r5 r6 r7 r8 ∧ Below w0.heap.size w0 w' ∧ KeepBut w w' g none := by
  unfold tikref22_Deck_Play.f at h
  obtain ⟨b, hb, h'⟩ := Option.bind_eq_some_iff.mp h
  clear h
  have h := h'
  clear h'
  have HI := Aside0.mk hI
  have HB := Aside0.mk hB
  have HMay := Aside0.mk hb
  clear hI hB hb
  go_enter Tryd.func47, Tryd.ntmps47
  go_wp2_with fail
  refine (refMay.calls a1 a2 a3 b _ HMay.out).mono ?_
  rintro e1 w1 ⟨rfl, hd⟩
  have HI1 := Aside0.mk (HI.out.below hd)
  have HB1 := Aside0.mk (below_step HB.out hd)
  have K1 := Aside0.mk (KeepBut.of_below hd g none)
  obtain ⟨c0, c1, f0, f1⟩ := rdk_cells HI1.out
  clear hd
  cases b
  · rw [if_neg (by decide)] at h
    obtain ⟨rfl, rfl, rfl, rfl, rfl, rfl, rfl, rfl⟩ : (1 : Int) = r1 ∧ s0 = r2 ∧ s1 = r3 ∧ s2 = r4 ∧ s3 = r5 ∧ s4 = r6 ∧ s5 = r7 ∧ s6 = r8 := by simpa using Option.some.inj h
    go_wp2_with fail
    go_ret
    exact ⟨rfl, HI1.out, HB1.out, K1.out⟩
  rw [if_pos rfl] at h
  by_cases q0 : s0 = 0
  · rw [if_pos q0] at h
    obtain ⟨rfl, rfl, rfl, rfl, rfl, rfl, rfl, rfl⟩ : (13 : Int) = r1 ∧ s0 = r2 ∧ s1 = r3 ∧ s2 = r4 ∧ s3 = r5 ∧ s4 = r6 ∧ s5 = r7 ∧ s6 = r8 := by simpa using Option.some.inj h
    have d0 : (s0 == 0) = true := by simp [q0]
    clear h q0
    go_wp2_with fail
    go_ret
    exact ⟨rfl, HI1.out, HB1.out, K1.out⟩
  rw [if_neg q0] at h
  have d0 : (s0 == 0) = false := by simp [q0]
  by_cases q1 : s0 = 1
  · rw [if_pos q1] at h
    have d1 : (s0 == 1) = true := by simp [q1]
    obtain ⟨⟨z1, z2, z3, z4, z5, z6, z7⟩, hq, h⟩ := Option.bind_eq_some_iff.mp h
    obtain ⟨rfl, rfl, rfl, rfl, rfl, rfl, rfl, rfl⟩ : (0 : Int) = r1 ∧ z1 = r2 ∧ z2 = r3 ∧ z3 = r4 ∧ z4 = r5 ∧ z5 = r6 ∧ z6 = r7 ∧ z7 = r8 := by simpa using Option.some.inj h
    obtain ⟨m, hm⟩ : ∃ m, (if s1 < a2 then a2 else s1) = m := ⟨_, rfl⟩
    obtain ⟨p, hp⟩ : ∃ p, (if a3 < m then a3 else m) = p := ⟨_, rfl⟩
    have hmp : mn (mx s1 a2) a3 = p := by
      rw [← hp, ← hm]
      unfold mn mx
      repeat' split
      all_goals omega
    rw [hmp] at hq
    have HQ := Aside0.mk hq
    clear h hq q0 q1 hmp
    go_wp2_with fail
    refine (tikref22_Deck_stand.calls g 2 s1 s2 s3 s4 s5 s6 a1 p z1 z2 z3 z4 z5 z6 z7 w0 _ (HI1.out.set_0 2) (below_set HB1.out HI1.out.ge) HQ.out).mono ?_
    rintro e3 w3 ⟨rfl, hI3, hB3, hK3⟩
    have HI3 := Aside0.mk hI3
    have HB3 := Aside0.mk hB3
    have K3 := Aside0.mk (KeepBut.trans (KeepBut.set_ K1.out 0 (.int .i64 2)) hK3 (.inl rfl))
    clear hI3 hB3 hK3 c0 c1 f0 f1
    obtain ⟨c0, c1, f0, f1⟩ := rdk_cells HI3.out
    go_wp2_with fail
    go_ret
    exact ⟨rfl, HI3.out, HB3.out, K3.out⟩
  rw [if_neg q1] at h
  have d1 : (s0 == 1) = false := by simp [q1]
  obtain ⟨rfl, rfl, rfl, rfl, rfl, rfl, rfl, rfl⟩ : (0 : Int) = r1 ∧ s0 = r2 ∧ s1 = r3 ∧ s2 = r4 ∧ s3 = r5 ∧ s4 = r6 ∧ s5 = r7 ∧ s6 = r8 := by simpa using Option.some.inj h
  clear h q0 q1
  go_wp2_with fail
  go_ret
  exact ⟨rfl, HI1.out, HB1.out, K1.out⟩
set_option maxHeartbeats 8000000 in
set_option maxRecDepth 100000 in
theorem tikref22_Deck_Seek.calls (g : Nat) (s0 s1 s2 s3 s4 s5 s6 a1 a2 a3 a4 : Int) (r1 r2 r3 r4 r5 r6 r7 r8 : Int) (w0 w : World) (hI : IsS43 w0 w g s0 s1 s2 s3 s4 s5 s6) (hB : Below w0.heap.size w0 w) (h : tikref22_Deck_Seek.f s0 s1 s2 s3 s4 s5 s6 a1 a2 a3 a4 = some (r1, r2, r3, r4, r5, r6, r7, r8)) :
    Calls Tryd.prog 48 #[.pointer (some ⟨g, 0, none⟩), .int .u64 a1, .int .u64 a2, .int .u64 a3, .int .u64 a4] w fun e w' => e = .returned (.int .i64 r1) ∧ IsS43 w0 w' g r2 r3 r4 r5 r6 r7 r8 ∧ Below w0.heap.size w0 w' ∧ KeepBut w w' g none := by
  unfold tikref22_Deck_Seek.f at h
  obtain ⟨b, hb, h'⟩ := Option.bind_eq_some_iff.mp h
  clear h
  have h := h'
  clear h'
  have HI := Aside0.mk hI
  have HB := Aside0.mk hB
  have HMay := Aside0.mk hb
  clear hI hB hb
  go_enter Tryd.func48, Tryd.ntmps48
  go_wp2_with fail
  refine (refMay.calls a1 a2 a3 b _ HMay.out).mono ?_
  rintro e1 w1 ⟨rfl, hd⟩
  have HI1 := Aside0.mk (HI.out.below hd)
  have HB1 := Aside0.mk (below_step HB.out hd)
  have K1 := Aside0.mk (KeepBut.of_below hd g none)
  obtain ⟨c0, c1, f0, f1⟩ := rdk_cells HI1.out
  clear hd
  cases b
  · rw [if_neg (by decide)] at h
    obtain ⟨rfl, rfl, rfl, rfl, rfl, rfl, rfl, rfl⟩ : (1 : Int) = r1 ∧ s0 = r2 ∧ s1 = r3 ∧ s2 = r4 ∧ s3 = r5 ∧ s4 = r6 ∧ s5 = r7 ∧ s6 = r8 := by simpa using Option.some.inj h
    go_wp2_with fail
    go_ret
    exact ⟨rfl, HI1.out, HB1.out, K1.out⟩
  rw [if_pos rfl] at h
  by_cases q0 : a4 < a2
  · rw [if_pos q0] at h
    obtain ⟨rfl, rfl, rfl, rfl, rfl, rfl, rfl, rfl⟩ : (12 : Int) = r1 ∧ s0 = r2 ∧ s1 = r3 ∧ s2 = r4 ∧ s3 = r5 ∧ s4 = r6 ∧ s5 = r7 ∧ s6 = r8 := by simpa using Option.some.inj h
    have d0 : decide (a4 < a2) = true := decide_eq_true q0
    clear h q0
    go_wp2_with fail
    go_ret
    exact ⟨rfl, HI1.out, HB1.out, K1.out⟩
  rw [if_neg q0] at h
  have d0 : decide (a4 < a2) = false := decide_eq_false q0
  obtain ⟨⟨z1, z2, z3, z4, z5, z6, z7⟩, hq, h'⟩ := Option.bind_eq_some_iff.mp h
  clear h
  have h := h'
  clear h'
  dsimp only at h
  obtain ⟨p, hp⟩ : ∃ p, (if a3 < a4 then a3 else a4) = p := ⟨_, rfl⟩
  have hmp : mn a4 a3 = p := by
    rw [← hp]
    unfold mn
    repeat' split
    all_goals omega
  rw [hmp] at hq
  have HQ := Aside0.mk hq
  clear hq q0 hmp
  go_wp2_with fail
  refine (tikref22_Deck_stand.calls g s0 s1 s2 s3 s4 s5 s6 a1 p z1 z2 z3 z4 z5 z6 z7 w0 _ HI1.out HB1.out HQ.out).mono ?_
  rintro e3 w3 ⟨rfl, hI3, hB3, hK3⟩
  have HI3 := Aside0.mk hI3
  have HB3 := Aside0.mk hB3
  have K3 := Aside0.mk (KeepBut.trans K1.out hK3 (.inl rfl))
  clear hI3 hB3 hK3 c0 c1 f0 f1
  obtain ⟨c0, c1, f0, f1⟩ := rdk_cells HI3.out
  by_cases q1 : z1 = 0
  · rw [if_pos q1] at h
    have d1 : (z1 == 0) = true := by simp [q1]
    obtain ⟨rfl, rfl, rfl, rfl, rfl, rfl, rfl, rfl⟩ : (0 : Int) = r1 ∧ (1 : Int) = r2 ∧ z2 = r3 ∧ z3 = r4 ∧ z4 = r5 ∧ z5 = r6 ∧ z6 = r7 ∧ z7 = r8 := by simpa using Option.some.inj h
    clear h q1
    go_wp2_with fail
    go_ret
    exact ⟨rfl, HI3.out.set_0 1, below_set HB3.out HI3.out.ge, K3.out.set_ 0 _⟩
  rw [if_neg q1] at h
  have d1 : (z1 == 0) = false := by simp [q1]
  obtain ⟨rfl, rfl, rfl, rfl, rfl, rfl, rfl, rfl⟩ : (0 : Int) = r1 ∧ z1 = r2 ∧ z2 = r3 ∧ z3 = r4 ∧ z4 = r5 ∧ z5 = r6 ∧ z6 = r7 ∧ z7 = r8 := by simpa using Option.some.inj h
  clear h q1
  go_wp2_with fail
  go_ret
  exact ⟨rfl, HI3.out, HB3.out, K3.out⟩
set_option maxHeartbeats 8000000 in
set_option maxRecDepth 100000 in
theorem tikref22_Deck_Pause.calls (k : Nat) (g : Nat) (s0 s1 s2 s3 s4 s5 s6 a1 a2 a3 : Int) (r1 r2 r3 r4 r5 r6 r7 r8 : Int) (w0 w : World) (hI : IsS43 w0 w g s0 s1 s2 s3 s4 s5 s6) (hB : Below w0.heap.size w0 w) (h : tikref22_Deck_Pause.f k s0 s1 s2 s3 s4 s5 s6 a1 a2 a3 = some (r1, r2, r3, r4, r5, r6, r7, r8)) :
    Calls Tryd.prog 46 #[.pointer (some ⟨g, 0, none⟩), .int .u64 a1, .int .u64 a2, .int .u64 a3] w fun e w' => e = .returned (.int .i64 r1) ∧ IsS43 w0 w' g r2 r3 r4 r5 r6 r7 r8 ∧ Below w0.heap.size w0 w' ∧ KeepBut w w' g none := by
  unfold tikref22_Deck_Pause.f at h
  obtain ⟨b, hb, h'⟩ := Option.bind_eq_some_iff.mp h
  clear h
  have h := h'
  clear h'
  have HI := Aside0.mk hI
  have HB := Aside0.mk hB
  have HMay := Aside0.mk hb
  clear hI hB hb
  go_enter Tryd.func46, Tryd.ntmps46
  go_wp2_with fail
  refine (refMay.calls a1 a2 a3 b _ HMay.out).mono ?_
  rintro e1 w1 ⟨rfl, hd⟩
  have HI1 := Aside0.mk (HI.out.below hd)
  have HB1 := Aside0.mk (below_step HB.out hd)
  have K1 := Aside0.mk (KeepBut.of_below hd g none)
  obtain ⟨c0, c1, f0, f1⟩ := rdk_cells HI1.out
  clear hd
  cases b
  · rw [if_neg (by decide)] at h
    obtain ⟨rfl, rfl, rfl, rfl, rfl, rfl, rfl, rfl⟩ : (1 : Int) = r1 ∧ s0 = r2 ∧ s1 = r3 ∧ s2 = r4 ∧ s3 = r5 ∧ s4 = r6 ∧ s5 = r7 ∧ s6 = r8 := by simpa using Option.some.inj h
    go_wp2_with fail
    go_ret
    exact ⟨rfl, HI1.out, HB1.out, K1.out⟩
  rw [if_pos rfl] at h
  by_cases q0 : s0 = 2
  · rw [if_pos q0] at h
    have d0 : (s0 == 2) = true := by simp [q0]
    obtain ⟨⟨y1, y2, y3, y4, y5, y6, y7⟩, ht, h'⟩ := Option.bind_eq_some_iff.mp h
    clear h
    have h := h'
    clear h'
    dsimp only at h
    have HT := Aside0.mk ht
    clear ht q0
    go_wp2_with fail
    refine (tikref22_Deck_Tick.calls k g s0 s1 s2 s3 s4 s5 s6 a1 a2 a3 y1 y2 y3 y4 y5 y6 y7 w0 _ HI1.out HB1.out HT.out).mono ?_
    rintro e2 w2 ⟨rfl, hI2, hB2, hK2⟩
    have HI2 := Aside0.mk hI2
    have HB2 := Aside0.mk hB2
    have K2 := Aside0.mk (KeepBut.trans K1.out hK2 (.inl rfl))
    clear hI2 hB2 hK2 c0 c1 f0 f1
    obtain ⟨c0, c1, f0, f1⟩ := rdk_cells HI2.out
    by_cases q1 : y1 = 0
    · rw [if_pos q1] at h
      have d1 : (y1 == 0) = true := by simp [q1]
      obtain ⟨⟨z1, z2, z3, z4, z5, z6, z7⟩, hq, h⟩ := Option.bind_eq_some_iff.mp h
      obtain ⟨rfl, rfl, rfl, rfl, rfl, rfl, rfl, rfl⟩ : (0 : Int) = r1 ∧ (1 : Int) = r2 ∧ z2 = r3 ∧ z3 = r4 ∧ z4 = r5 ∧ z5 = r6 ∧ z6 = r7 ∧ z7 = r8 := by simpa using Option.some.inj h
      have HQ := Aside0.mk hq
      clear h hq q1
      go_wp2_with fail
      refine (tikref22_Deck_stand.calls g y1 y2 y3 y4 y5 y6 y7 a1 a3 z1 z2 z3 z4 z5 z6 z7 w0 _ HI2.out HB2.out HQ.out).mono ?_
      rintro e3 w3 ⟨rfl, hI3, hB3, hK3⟩
      have HI3 := Aside0.mk hI3
      have HB3 := Aside0.mk hB3
      have K3 := Aside0.mk (KeepBut.trans K2.out hK3 (.inl rfl))
      clear hI3 hB3 hK3 c0 c1 f0 f1
      obtain ⟨c0, c1, f0, f1⟩ := rdk_cells HI3.out
      go_wp2_with fail
      go_ret
      exact ⟨rfl, HI3.out.set_0 1, below_set HB3.out HI3.out.ge, K3.out.set_ 0 _⟩
    rw [if_neg q1] at h
    have d1 : (y1 == 0) = false := by simp [q1]
    obtain ⟨rfl, rfl, rfl, rfl, rfl, rfl, rfl, rfl⟩ : (0 : Int) = r1 ∧ (1 : Int) = r2 ∧ y2 = r3 ∧ y3 = r4 ∧ y4 = r5 ∧ y5 = r6 ∧ y6 = r7 ∧ y7 = r8 := by simpa using Option.some.inj h
    clear h q1
    go_wp2_with fail
    go_ret
    exact ⟨rfl, HI2.out.set_0 1, below_set HB2.out HI2.out.ge, K2.out.set_ 0 _⟩
  rw [if_neg q0] at h
  have d0 : (s0 == 2) = false := by simp [q0]
  by_cases q1 : s0 = 0
  · rw [if_pos q1] at h
    have d1 : (s0 == 0) = true := by simp [q1]
    obtain ⟨⟨z1, z2, z3, z4, z5, z6, z7⟩, hq, h⟩ := Option.bind_eq_some_iff.mp h
    obtain ⟨rfl, rfl, rfl, rfl, rfl, rfl, rfl, rfl⟩ : (0 : Int) = r1 ∧ (1 : Int) = r2 ∧ z2 = r3 ∧ z3 = r4 ∧ z4 = r5 ∧ z5 = r6 ∧ z6 = r7 ∧ z7 = r8 := by simpa using Option.some.inj h
    have HQ := Aside0.mk hq
    clear h hq q0 q1
    go_wp2_with fail
    refine (tikref22_Deck_stand.calls g s0 s1 s2 s3 s4 s5 s6 a1 a3 z1 z2 z3 z4 z5 z6 z7 w0 _ HI1.out HB1.out HQ.out).mono ?_
    rintro e3 w3 ⟨rfl, hI3, hB3, hK3⟩
    have HI3 := Aside0.mk hI3
    have HB3 := Aside0.mk hB3
    have K3 := Aside0.mk (KeepBut.trans K1.out hK3 (.inl rfl))
    clear hI3 hB3 hK3 c0 c1 f0 f1
    obtain ⟨c0, c1, f0, f1⟩ := rdk_cells HI3.out
    go_wp2_with fail
    go_ret
    exact ⟨rfl, HI3.out.set_0 1, below_set HB3.out HI3.out.ge, K3.out.set_ 0 _⟩
  rw [if_neg q1] at h
  have d1 : (s0 == 0) = false := by simp [q1]
  obtain ⟨rfl, rfl, rfl, rfl, rfl, rfl, rfl, rfl⟩ : (0 : Int) = r1 ∧ (1 : Int) = r2 ∧ s1 = r3 ∧ s2 = r4 ∧ s3 = r5 ∧ s4 = r6 ∧ s5 = r7 ∧ s6 = r8 := by simpa using Option.some.inj h
  clear h q0 q1
  go_wp2_with fail
  go_ret
  exact ⟨rfl, HI1.out.set_0 1, below_set HB1.out HI1.out.ge, K1.out.set_ 0 _⟩
end Go.Proofs.YtlgfmmkabnbllaaDoor.Hand
