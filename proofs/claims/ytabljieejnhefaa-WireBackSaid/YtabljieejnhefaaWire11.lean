/-
  The Reader's contracts in the printed contracts' form: a state whose text was made here.
-/
import Derived.Test.YtabljieejnhefaaWire10
import Derived.Test.YtabljieejnhefaaWire9
import Derived.Test.YtabljieejnhefaaWire8
namespace Go.Proofs.Ytabljieejnhefaa.Hand
open Go.RowKit Go.Proofs.YtabljieejnhefaaW.PrintWords Go.Proofs.YtabljieejnhefaaW.PrintLast Go.Proofs.YtabljieejnhefaaW.PrintMore

/-- A Reader at block g of W; it and its text were made behind w0. -/
def IsS57 (w0 W : World) (g : Nat) (f0 : List Int) (f1 : Int) (f2 : Int) : Prop :=
  ∃ F : Nat → Prop, IsRd W F g f0 f1 f2 ∧ (∀ k, F k → w0.heap.size ≤ k ∧ k < W.heap.size) ∧ 0 ≤ f1 ∧ f1 ≤ f0.length ∧ f0.length < 140737488355328
section
variable {w0 W W1 : World} {g : Nat} {f0 : List Int} {f1 f2 : Int}
theorem IsRd.own {F : Nat → Prop} {w : World} {l : List Int} {at_ e : Int} (h : IsRd w F g l at_ e) : F g := by
  obtain ⟨A, c, h1, _⟩ := h
  exact h1
theorem IsS57.below (h : IsS57 w0 W g f0 f1 f2) (hw : Below W.heap.size W W1) : IsS57 w0 W1 g f0 f1 f2 := by
  obtain ⟨F, a, b, c⟩ := h
  exact ⟨F, a.mu (Mu.of_below hw (fun _ => False)) (fun _ _ e => e), fun k hk => ⟨(b k hk).1, Nat.lt_of_lt_of_le (b k hk).2 hw.size⟩, c⟩
theorem IsS57.alloc (h : IsS57 w0 W g f0 f1 f2) (o : Obj) : IsS57 w0 (W.alloc o) g f0 f1 f2 := h.below (below_alloc (Below.refl _ _) o)
theorem IsS57.drewN (h : IsS57 w0 W g f0 f1 f2) (m : Nat) : IsS57 w0 (W.drewN m) g f0 f1 f2 := h.below (pw_below_drewN (Below.refl _ _) m)
theorem IsS57.drew (h : IsS57 w0 W g f0 f1 f2) : IsS57 w0 W.drew g f0 f1 f2 := h.below (below_drew (Below.refl _ _))
theorem IsS57.ge (h : IsS57 w0 W g f0 f1 f2) : w0.heap.size ≤ g := by
  obtain ⟨F, a, b, c⟩ := h
  exact (b g a.own).1
end
theorem keep_mu {w w' : World} {g : Nat} (h : Mu (· = g) w w') : KeepBut w w' g none := ⟨h.size, fun i hi hg _ => h.block i hi hg⟩
theorem same_post {w0 w : World} {g : Nat} {f0 : List Int} {f1 f2 : Int} (h : IsS57 w0 w g f0 f1 f2) (hB : Below w0.heap.size w0 w) (n : Nat) :
    IsS57 w0 (w.drewN n) g f0 f1 f2 ∧ Below w0.heap.size w0 (w.drewN n) ∧ KeepBut w (w.drewN n) g none := ⟨h.drewN n, pw_below_drewN hB n, keep_drewN (KeepBut.refl _ _ _) n⟩
def wire_Reader_Left.f (s0 : List Int) (s1 s2 : Int) : Option (Int × Int × Int) := some (s0.length - s1, s1, s2)
theorem wire_Reader_Left.calls (g : Nat) (s0_0 : List Int) (s0_1 : Int) (s0_2 : Int) (r1 : Int) (r2 : Int) (r3 : Int) (w0 w : World) (hI : IsS57 w0 w g s0_0 s0_1 s0_2) (hB : Below w0.heap.size w0 w) (h : wire_Reader_Left.f s0_0 s0_1 s0_2 = some (r1, r2, r3)) :
    Calls Try.prog 29 #[.pointer (some ⟨g, 0, none⟩)] w fun e w' => e = .returned (.int .i64 r1) ∧ IsS57 w0 w' g s0_0 r2 r3 ∧ Below w0.heap.size w0 w' ∧ KeepBut w w' g none := by
  have hh := Option.some.inj h
  obtain ⟨rfl, rfl, rfl⟩ : (s0_0.length - s0_1 : Int) = r1 ∧ s0_1 = r2 ∧ s0_2 = r3 := by simpa using hh
  have hI' := hI
  obtain ⟨F, a, b, c0, c1, c2⟩ := hI
  refine (left_any a c0 c1).mono ?_
  rintro en w' ⟨rfl, n, rfl⟩
  exact ⟨rfl, same_post hI' hB n⟩
def wire_Reader_Err.f (_ : List Int) (s1 s2 : Int) : Option (Int × Int × Int) := some (s2, s1, s2)
theorem wire_Reader_Err.calls (g : Nat) (s0_0 : List Int) (s0_1 : Int) (s0_2 : Int) (r1 : Int) (r2 : Int) (r3 : Int) (w0 w : World) (hI : IsS57 w0 w g s0_0 s0_1 s0_2) (hB : Below w0.heap.size w0 w) (h : wire_Reader_Err.f s0_0 s0_1 s0_2 = some (r1, r2, r3)) :
    Calls Try.prog 23 #[.pointer (some ⟨g, 0, none⟩)] w fun e w' => e = .returned (.int .i64 r1) ∧ IsS57 w0 w' g s0_0 r2 r3 ∧ Below w0.heap.size w0 w' ∧ KeepBut w w' g none := by
  have hh := Option.some.inj h
  obtain ⟨rfl, rfl, rfl⟩ : s0_2 = r1 ∧ s0_1 = r2 ∧ s0_2 = r3 := by simpa using hh
  have hI' := hI
  obtain ⟨F, a, b, c0, c1, c2⟩ := hI
  refine (err_any a).mono ?_
  rintro en w' ⟨rfl, n, rfl⟩
  exact ⟨rfl, same_post hI' hB n⟩
def wire_Reader_End.f (s0 : List Int) (s1 s2 : Int) : Option (Int × Int × Int) := some ((if s2 = 0 ∧ s1 < s0.length then 4 else s2), s1, s2)
theorem wire_Reader_End.calls (g : Nat) (s0_0 : List Int) (s0_1 : Int) (s0_2 : Int) (r1 : Int) (r2 : Int) (r3 : Int) (w0 w : World) (hI : IsS57 w0 w g s0_0 s0_1 s0_2) (hB : Below w0.heap.size w0 w) (h : wire_Reader_End.f s0_0 s0_1 s0_2 = some (r1, r2, r3)) :
    Calls Try.prog 22 #[.pointer (some ⟨g, 0, none⟩)] w fun e w' => e = .returned (.int .i64 r1) ∧ IsS57 w0 w' g s0_0 r2 r3 ∧ Below w0.heap.size w0 w' ∧ KeepBut w w' g none := by
  have hh := Option.some.inj h
  have e1 := congrArg Prod.fst hh
  have e2 := congrArg (fun z => z.2.1) hh
  have e3 := congrArg (fun z => z.2.2) hh
  dsimp only at e1 e2 e3
  have hI' := hI
  obtain ⟨F, a, b, c0, c1, c2⟩ := hI
  refine (End_any a c0 c1).mono ?_
  rintro en w' ⟨rfl, n, rfl⟩
  subst e2 e3
  exact ⟨by rw [e1], same_post hI' hB n⟩
def wire_Reader_Num.f (s0 : List Int) (s1 s2 a1 : Int) : Option (Int × Int × Int) := some (rdNum s0 s1 s2 a1)
theorem wire_Reader_Num.calls (g : Nat) (s0_0 : List Int) (s0_1 : Int) (s0_2 : Int) (a1 : Int) (r1 : Int) (r2 : Int) (r3 : Int) (w0 w : World) (hI : IsS57 w0 w g s0_0 s0_1 s0_2) (hB : Below w0.heap.size w0 w) (h : wire_Reader_Num.f s0_0 s0_1 s0_2 a1 = some (r1, r2, r3)) :
    Calls Try.prog 21 #[.pointer (some ⟨g, 0, none⟩), .int .u64 a1] w fun e w' => e = .returned (.int .u64 r1) ∧ IsS57 w0 w' g s0_0 r2 r3 ∧ Below w0.heap.size w0 w' ∧ KeepBut w w' g none := by
  have hh : rdNum s0_0 s0_1 s0_2 a1 = (r1, r2, r3) := Option.some.inj h
  obtain ⟨F, a, b, c0, c1, c2⟩ := hI
  refine (Num_any a (fun k hk => (b k hk).2) c0 c1).mono ?_
  rintro en w' ⟨rfl, i, p0, p1, mu⟩
  rw [hh] at i p0 p1 ⊢
  refine ⟨rfl, ⟨F, i, fun k hk => ⟨(b k hk).1, Nat.lt_of_lt_of_le (b k hk).2 mu.size⟩, p0, p1, c2⟩, Mu.below_of hB mu (fun k hk e => ?_), keep_mu mu⟩
  subst e
  exact Nat.not_le.2 hk (b k a.own).1
def wire_NewReader.f (l0 : List Int) : Option (List Int × Int × Int) := if l0.length < 140737488355328 then some (l0, 0, 0) else none
theorem wire_NewReader.calls (A0 : Option Addr) (c0 : Nat) (l0 : List Int) (r1 : List Int) (r2 : Int) (r3 : Int) (w0 w : World) (hB : Below w0.heap.size w0 w) (hr0 : Kd.C (Kd.int .u8) w A0 l0.length l0) (hc0 : l0.length ≤ c0) (h : wire_NewReader.f l0 = some (r1, r2, r3)) :
    Calls Try.prog 20 #[.slice A0 l0.length c0] w fun e w' => ∃ g, e = .returned (.pointer (some ⟨g, 0, none⟩)) ∧ IsS57 w0 w' g r1 r2 r3 ∧ Below w0.heap.size w0 w' ∧ Below w.heap.size w w' := by
  unfold wire_NewReader.f at h
  split at h
  case isFalse => cases h
  rename_i hl
  have hh := Option.some.inj h
  obtain ⟨rfl, rfl, rfl⟩ : l0 = r1 ∧ (0 : Int) = r2 ∧ (0 : Int) = r3 := by simpa using hh
  refine (NewReader_any hr0 hc0 hl).mono ?_
  rintro en w' ⟨g, rfl, hg, i, bl⟩
  exact ⟨g, rfl, ⟨_, i, fun k hk => ⟨Nat.le_trans hB.size hk.1, hk.2⟩, by omega, by omega, hl⟩, below_step hB bl, bl⟩
end Go.Proofs.Ytabljieejnhefaa.Hand
