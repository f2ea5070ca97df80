/- Texts of this claim, put together. -/
import Derived.Test.YtlgfmmkabnbllaaDoorMDPc
import Derived.Test.YtlgfmmkabnbllaaDoorMDPf
set_option linter.unusedVariables false
set_option linter.unusedSimpArgs false
namespace Go.Proofs.YtlgfmmkabnbllaaDoor.PV
open Go.RowKit Go.Proofs.YtlgfmmkabnbllaaDoorW.PrintWords Go.Proofs.YtlgfmmkabnbllaaDoorW.PrintLast Go.Proofs.YtlgfmmkabnbllaaDoorW.PrintMore Go.Proofs.YtlgfmmkabnbllaaDoor.Hand Go.Proofs.YtlgfmmkabnbllaaDoor.PD
set_option linter.unusedSimpArgs false
set_option linter.unusedVariables false
abbrev KeepBut (w w' : World) (g : Nat) (row : Option Nat) : Prop := KeepD w w' g
theorem KeepBut.blk {w w1 : World} {g g' : Nat} {o : Obj} (h : KeepD w w1 g) (hb : w.heap[g']? = some o) (hg : g' ≠ g) (hr : notC o = true) : w1.heap[g']? = some o := h.keep g' o hb hg hr
def Typ (W : World) (b : Nat) : Prop := ∃ cs t, W.heap[b]? = some (.cells cs t (0, 0)) ∧ t ≠ 100 ∧ t ≠ 138
theorem typ_set {W : World} {b : Nat} (h : Typ W b) (g j : Nat) (u : Value) : Typ (W.setCell ⟨g, j, none⟩ u) b := by
  obtain ⟨cs, t, h, a, c⟩ := h
  by_cases e : b = g
  · subst e
    exact ⟨_, t, blk_set h j u, a, c⟩
  · exact ⟨cs, t, blk_far h e u, a, c⟩
theorem typ_of {W : World} {b : Nat} {cs : Array Value} {t : TypeId} (h : Aside0 (W.heap[b]? = some (.cells cs t (0, 0)))) (a : t ≠ 100) (c : t ≠ 138) : Typ W b := ⟨cs, t, h.out, a, c⟩
theorem IsS100.far {w0 W : World} {g : Nat} {mode pos n d : Int} {has : Bool} {cs cp cr cn cd : Int} {p : Addr} (h : IsS100 w0 W g mode pos n d has cs cp cr cn cd) (hne : g ≠ p.block) (u : Value) (ht : Typ W p.block := by ((iterate 24 (try (first | (with_reducible refine typ_drewN ?_ _) | (with_reducible refine typ_drew ?_) | (with_reducible refine typ_alloc ?_ _) | (with_reducible refine typ_set ?_ _ _ _)))); exact typ_of (by with_reducible assumption) (by decide) (by decide))) : IsS100 w0 (W.setCell p u) g mode pos n d has cs cp cr cn cd := by
  obtain ⟨vs, t, hb, h1, h2⟩ := ht
  obtain ⟨h0, ⟨h3, h⟩ | ⟨h3, gc, h, hc⟩⟩ := h
  · exact ⟨h0, .inl ⟨h3, blk_far h hne u⟩⟩
  · have hnc : gc ≠ p.block := blk_ne hc.1 hb (fun e => h2 e.symm)
    exact ⟨h0, .inr ⟨h3, gc, blk_far h hne u, hc.far hnc u⟩⟩
abbrev kF64 : Kd Nat := Kd.scalar (Value.float .f64) (fun _ => rfl)
structure KeepR (w w' : World) (g : Nat) : Prop where
  size : w.heap.size ≤ w'.heap.size
  keep : ∀ (i : Nat) (o : Obj), w.heap[i]? = some o → i ≠ g → w'.heap[i]? = some o
  ref : ∃ cs, w.heap[g]? = some (.cells cs 43 (0, 0))
theorem KeepR.of {w w' : World} {g : Nat} {w0 : World} {f0 f1 f2 f3 f4 f5 f6 : Int} (h : IsS43 w0 w g f0 f1 f2 f3 f4 f5 f6) (k : Go.Proofs.YtlgfmmkabnbllaaDoorW.PrintWords.KeepBut w w' g none) : KeepR w w' g :=
  ⟨k.1, fun i o hi hg => (k.2 i (blk_lt hi) hg (by simp)).trans hi, ⟨_, h.1⟩⟩
theorem KeepR.blk {w w1 : World} {g g' : Nat} {o : Obj} (h : KeepR w w1 g) (hb : w.heap[g']? = some o) (hg : g' ≠ g) (hr : notC o = true) : w1.heap[g']? = some o := h.keep g' o hb hg
theorem keepRef {w0 W W1 : World} {g g2 : Nat} {f0 f1 f2 f3 f4 f5 f6 : Int} (h : IsS43 w0 W g f0 f1 f2 f3 f4 f5 f6) (hk : KeepD W W1 g2) (hne : g ≠ g2) : IsS43 w0 W1 g f0 f1 f2 f3 f4 f5 f6 :=
  ⟨hk.keep g _ h.1 hne (by simp [notC]), h.2⟩
theorem keepDeck {w0 W W1 : World} {g g2 : Nat} {mode pos n d : Int} {has : Bool} {cs cp cr cn cd : Int} (h : IsS100 w0 W g mode pos n d has cs cp cr cn cd) (hk : KeepR W W1 g2) (hne : g ≠ g2) : IsS100 w0 W1 g mode pos n d has cs cp cr cn cd := by
  obtain ⟨vs, hv⟩ := hk.ref
  obtain ⟨h0, ⟨h3, h⟩ | ⟨h3, gc, h, hc⟩⟩ := h
  · exact ⟨h0, .inl ⟨h3, hk.keep g _ h hne⟩⟩
  · have hnc : gc ≠ g2 := blk_ne hc.1 hv (by decide)
    exact ⟨h0, .inr ⟨h3, gc, hk.keep g _ h hne, ⟨hk.keep gc _ hc.1 hnc, hc.2⟩⟩⟩
theorem strengthen_ {P : Program} {md : Region.Mode} {ops : Array Oper} {Q : Exit → Act → World → Prop} {S S' : World → Prop} (h : ∀ w, S' w → S w) :
    ∀ (fuel : Nat) (l : Array Bool) (a : Act) (w : World), S' w → wpAnyLast P md ops Q S' [] fuel l a w → wpAnyLast P md ops Q S [] fuel l a w
  | 0, _, _, _, _, k => k
  | fuel + 1, _, _, _, hw, k => ⟨k.1, fun i hi => wpOp_mono (fun a' w' k' => ⟨fun _ _ => h _ (k'.1 (by simp) hw), strengthen_ h fuel _ a' w' (k'.1 (by simp) hw) k'.2⟩) (k.2 i hi)⟩
def refNew.f : Option (Int × Int × Int × Int × Int × Int × Int) := some (0, 0, 0, 0, 0, 1, 1)
theorem refNew.calls (r1 r2 r3 r4 r5 r6 r7 : Int) (w0 w : World) (hB : Below w0.heap.size w0 w) (h : refNew.f = some (r1, r2, r3, r4, r5, r6, r7)) :
    Calls Tryd.prog 14 #[] w fun e w' => ∃ g_ : Nat, e = .returned (.pointer (some ⟨g_, 0, none⟩)) ∧ IsS43 w0 w' g_ r1 r2 r3 r4 r5 r6 r7 ∧ Below w0.heap.size w0 w' ∧ Below w.heap.size w w' ∧ w.heap.size ≤ g_ :=
  (tikref22_NewDeck.calls r1 r2 r3 r4 r5 r6 r7 w w (Below.refl _ _) h).mono fun _ _ ⟨g, h1, h2, h3, h4⟩ => ⟨g, h1, ⟨h2.1, Nat.le_trans hB.size h2.2⟩, below_step hB h4, h4, h2.2⟩
def refRate.f (s0 s1 s2 s3 s4 s5 s6 : Int) : Option (Int × Int × Int × Int × Int × Int × Int × Int × Int) := tikref22_Deck_Rate.f s0 s1 s2 s3 s4 s5 s6
theorem refRate.calls (g : Nat) (s0 s1 s2 s3 s4 s5 s6 r1 r2 r3 r4 r5 r6 r7 r8 r9 : Int) (w0 w : World) (hI : IsS43 w0 w g s0 s1 s2 s3 s4 s5 s6) (hB : Below w0.heap.size w0 w) (h : refRate.f s0 s1 s2 s3 s4 s5 s6 = some (r1, r2, r3, r4, r5, r6, r7, r8, r9)) :
    Calls Tryd.prog 20 #[.pointer (some ⟨g, 0, none⟩)] w fun e w' => e = .returned (.agg #[.int .u64 r1, .int .u64 r2]) ∧ IsS43 w0 w' g r3 r4 r5 r6 r7 r8 r9 ∧ Below w0.heap.size w0 w' ∧ KeepR w w' g :=
  (tikref22_Deck_Rate.calls g s0 s1 s2 s3 s4 s5 s6 r1 r2 r3 r4 r5 r6 r7 r8 r9 w0 w hI hB h).mono fun _ _ ⟨h1, h2, h3, h4⟩ => ⟨h1, h2, h3, KeepR.of hI h4⟩
def refPlain.f (k : Nat) (s0 s1 s2 s3 s4 s5 s6 a0 a1 a2 a3 a4 : Int) (a5 : Nat) : Option (Int × Int × Int × Int × Int × Int × Int × Int) := tiklaw23_plain.f k s0 s1 s2 s3 s4 s5 s6 a0 a1 a2 a3 a4 a5
theorem refPlain.calls (k : Nat) (g : Nat) (s0 s1 s2 s3 s4 s5 s6 a0 a1 a2 a3 a4 : Int) (a5 : Nat) (r1 r2 r3 r4 r5 r6 r7 r8 : Int) (w0 w : World) (hI : IsS43 w0 w g s0 s1 s2 s3 s4 s5 s6) (hB : Below w0.heap.size w0 w) (h : refPlain.f k s0 s1 s2 s3 s4 s5 s6 a0 a1 a2 a3 a4 a5 = some (r1, r2, r3, r4, r5, r6, r7, r8)) :
    Calls Tryd.prog 17 #[.pointer (some ⟨g, 0, none⟩), .agg #[.int .i64 a0, .int .u64 a1, .int .u64 a2, .int .u64 a3, .int .u64 a4, .float .f64 a5]] w fun e w' => e = .returned (.int .i64 r1) ∧ IsS43 w0 w' g r2 r3 r4 r5 r6 r7 r8 ∧ Below w0.heap.size w0 w' ∧ KeepR w w' g :=
  (tiklaw23_plain.calls k g s0 s1 s2 s3 s4 s5 s6 a0 a1 a2 a3 a4 a5 r1 r2 r3 r4 r5 r6 r7 r8 w0 w hI hB h).mono fun _ _ ⟨h1, h2, h3, h4⟩ => ⟨h1, h2, h3, KeepR.of hI h4⟩
end Go.Proofs.YtlgfmmkabnbllaaDoor.PV
