/-
  What is turned and what stays (Mu); a Reader in memory (IsRd); a byte read.
-/
import Derived.Test.YtabljieejnhefaaProg
import Derived.WalkKit
import Derived.WalkSpells
import Derived.WalkLawsBesides
import Derived.Defers
import Derived.Recover
import Derived.Deep.QuietTactic
import Derived.BigQuiet
import Derived.Test.YtabljieejnhefaaWMore
import Derived.Test.YtabljieejnhefaaWWords
import Derived.Test.YtabljieejnhefaaWLast
namespace Go.Proofs.Ytabljieejnhefaa.Hand
open Go.RowKit Go.Proofs.YtabljieejnhefaaW.PrintWords Go.Proofs.YtabljieejnhefaaW.PrintLast

/-- Nothing that was there has turned, but blocks of S. -/
structure Mu (S : Nat → Prop) (w w' : World) : Prop where
  os : w'.os = w.os
  tape : w'.tape = w.tape
  output : w'.output = w.output
  size : w.heap.size ≤ w'.heap.size
  block : ∀ k, k < w.heap.size → ¬ S k → w'.heap[k]? = w.heap[k]?
theorem Mu.refl (S : Nat → Prop) (w : World) : Mu S w w := ⟨rfl, rfl, rfl, Nat.le_refl _, fun _ _ _ => rfl⟩
theorem Mu.trans {S : Nat → Prop} {a b c : World} (h : Mu S a b) (k : Mu S b c) : Mu S a c :=
  ⟨k.os.trans h.os, k.tape.trans h.tape, k.output.trans h.output, Nat.le_trans h.size k.size, fun i hi hs => (k.block i (Nat.lt_of_lt_of_le hi h.size) hs).trans (h.block i hi hs)⟩
theorem Mu.mono {S T : Nat → Prop} {w w' : World} (h : Mu S w w') (hST : ∀ k, k < w.heap.size → S k → T k) : Mu T w w' := ⟨h.os, h.tape, h.output, h.size, fun k hk ht => h.block k hk (fun hs => ht (hST k hk hs))⟩
theorem Mu.drewN {S : Nat → Prop} {a w : World} (h : Mu S a w) (n : Nat) : Mu S a (w.drewN n) := ⟨h.os, h.tape, h.output, h.size, h.block⟩
theorem Mu.drew {S : Nat → Prop} {a w : World} (h : Mu S a w) : Mu S a w.drew := ⟨h.os, h.tape, h.output, h.size, h.block⟩
theorem Mu.alloc {S : Nat → Prop} {a w : World} (h : Mu S a w) (o : Obj) : Mu S a (w.alloc o) :=
  h.trans ⟨rfl, rfl, rfl, by simp, fun k hk _ => Below.heap_alloc _ _ _ hk⟩
theorem Mu.setCell {S : Nat → Prop} {a w : World} (h : Mu S a w) {p : Addr} (hp : p.block < a.heap.size → S p.block) (u : Value) : Mu S a (w.setCell p u) :=
  ⟨h.os, h.tape, h.output, by simpa [World.setCell] using h.size, fun k hk hs => (Below.heap_setCell _ _ _ _ (fun e => hs (by rw [e]; exact hp (by omega)))).trans (h.block k hk hs)⟩
theorem Mu.of_below {w w' : World} (h : Below w.heap.size w w') (S : Nat → Prop) : Mu S w w' := ⟨h.os, h.tape, h.output, h.size, fun k hk _ => h.block k hk⟩
theorem Mu.below {S : Nat → Prop} {w w' : World} (h : Mu S w w') (hS : ∀ k, k < w.heap.size → ¬ S k) : Below w.heap.size w w' := ⟨h.os, h.tape, h.output, h.size, fun k hk => h.block k hk (hS k hk)⟩
/-- Below an elder world: what is turned is newer. -/
theorem Mu.below_of {S : Nat → Prop} {w0 w w' : World} (hb : Below w0.heap.size w0 w) (h : Mu S w w') (hS : ∀ k, k < w0.heap.size → ¬ S k) : Below w0.heap.size w0 w' :=
  hb.trans ⟨h.os, h.tape, h.output, h.size, fun k hk => h.block k (Nat.lt_of_lt_of_le hk hb.size) (hS k hk)⟩

theorem heap_lt {w : World} {g : Nat} {o : Obj} (h : w.heap[g]? = some o) : g < w.heap.size := by
  rcases Nat.lt_or_ge g w.heap.size with h1 | h1
  · exact h1
  · rw [Array.getElem?_eq_none h1] at h; cases h
theorem Mu.heap {S : Nat → Prop} {w w' : World} (h : Mu S w w') {g : Nat} {o : Obj} (hg : w.heap[g]? = some o) (hs : ¬ S g) : w'.heap[g]? = some o := (h.block g (heap_lt hg) hs).trans hg
/-- Numbers read out of a row that has not turned. -/
theorem C_mu {k : IntKind} {S : Nat → Prop} {w w' : World} (h : Mu S w w') {A : Option Addr} {n : Nat} {l : List Int} (hC : Kd.C (Kd.int k) w A n l) (hA : ∀ ad, A = some ad → 0 < n → ¬ S ad.block) : Kd.C (Kd.int k) w' A n l := by
  obtain ⟨h1, h2, h3⟩ := hC
  refine ⟨h1, h2, fun hn => ?_⟩
  obtain ⟨ad, e, hc⟩ := h3 hn
  refine ⟨ad, e, fun j p hj => ?_⟩
  obtain ⟨c, c1, c2, c3⟩ := hc j p hj
  refine ⟨c, c1, c2, fun i u hu => ?_⟩
  have := c3 i u hu
  have hb : (ad.add (j * (Kd.int k).sz + i)).block = ad.block := by unfold Addr.add; split <;> rfl
  have hlt := World.block_lt_of_cell? _ _ this
  rw [World.cell?_of_block (w := w)]
  · exact this
  · rw [hb] at hlt ⊢
    exact h.block _ hlt (hA ad e hn)

/-- A Reader: its bytes, its place, why it failed; F: the blocks that it leads to. -/
def IsRd (w : World) (F : Nat → Prop) (g : Nat) (l : List Int) (at_ e : Int) : Prop :=
  ∃ (A : Option Addr) (c : Nat), F g ∧ w.heap[g]? = some (.cells #[.slice A l.length c, .int .i64 at_, .int .i64 e] 57 (0, 0)) ∧ l.length ≤ c ∧ Kd.C (Kd.int .u8) w A l.length l ∧
    (∀ ad, A = some ad → 0 < l.length → F ad.block ∧ ad.block ≠ g)
theorem IsRd.mu {w w' : World} {S F : Nat → Prop} {g : Nat} {l : List Int} {at_ e : Int} (h : IsRd w F g l at_ e) (hm : Mu S w w') (hF : ∀ k, F k → ¬ S k) : IsRd w' F g l at_ e := by
  obtain ⟨A, c, h1, h2, h3, h4, h5⟩ := h
  exact ⟨A, c, h1, hm.heap h2 (hF g h1), h3, C_mu hm h4 (fun ad ea hn => hF _ (h5 ad ea hn).1), h5⟩
theorem IsRd.len {w : World} {F : Nat → Prop} {g : Nat} {l : List Int} {at_ e : Int} (h : IsRd w F g l at_ e) : l.length ≤ 9223372036854775807 := by
  obtain ⟨A, c, h1, h2, h3, h4, h5⟩ := h
  exact h4.2.1
/-- A Reader whose place or whose failure was stored. -/
theorem IsRd.put {w w' : World} {F : Nat → Prop} {g : Nat} {l : List Int} {at_ e at' e' : Int} (h : IsRd w F g l at_ e) (hm : Mu (· = g) w w')
    (hg : ∀ v : Value, w.heap[g]? = some (.cells #[v, .int .i64 at_, .int .i64 e] 57 (0, 0)) → w'.heap[g]? = some (.cells #[v, .int .i64 at', .int .i64 e'] 57 (0, 0))) : IsRd w' F g l at' e' := by
  obtain ⟨A, c, h1, h2, h3, h4, h5⟩ := h
  exact ⟨A, c, h1, hg _ h2, h3, C_mu hm h4 (fun ad ea hn => (h5 ad ea hn).2), h5⟩
theorem add_block (ad : Addr) (n : Nat) : (ad.add n).block = ad.block := by unfold Addr.add; split <;> rfl
theorem set_at {w : World} {g t : Nat} {v a e x : Value} (h : w.heap[g]? = some (.cells #[v, a, e] t (0, 0))) : (w.setCell ⟨g, 1, none⟩ x).heap[g]? = some (.cells #[v, x, e] t (0, 0)) := by
  simp [World.setCell, Array.getElem?_modify, h]
theorem set_e {w : World} {g t : Nat} {v a e x : Value} (h : w.heap[g]? = some (.cells #[v, a, e] t (0, 0))) : (w.setCell ⟨g, 2, none⟩ x).heap[g]? = some (.cells #[v, a, x] t (0, 0)) := by
  simp [World.setCell, Array.getElem?_modify, h]

set_option maxHeartbeats 1000000 in
theorem byte_ok {w : World} {F : Nat → Prop} {g : Nat} {l : List Int} {at_ e : Int} (hI : IsRd w F g l at_ e) (h0 : 0 ≤ at_) (h1 : at_ < l.length) :
    Calls Try.prog 44 #[.pointer (some ⟨g, 0, none⟩)] w fun en w' => en = .returned (.int .u8 (rd l at_)) ∧ IsRd w' F g l (at_ + 1) e ∧ Mu (· = g) w w' := by
  have HI := Aside0.mk hI
  obtain ⟨A, c, i1, i2, i3, i4, i5⟩ := hI
  have I2 := Aside0.mk i2
  have hlen := i4.2.1
  have c0 := blk_cell i2 0
  have c1 := blk_cell i2 1
  have fz := blk_frozen i2 1
  obtain ⟨ad, ea, hx⟩ := Kd.at_int i4 at_ h0 h1
  subst ea
  have hne : ad.block ≠ g := (i5 ad rfl (by omega)).2
  clear i1 i2 i4 i5
  have ht : (at_ == (l.length : Int)) = false := beq_eq_false_iff_ne.2 (by omega)
  go_enter Try.func44, Try.ntmps44
  go_wp2
  go_quiet (fail)
  go_wp2
  obtain ⟨W1, hW1⟩ : ∃ W1, (w.drewN nq).setCell ⟨g, 1, none⟩ (.int .i64 (at_ + 1)) = W1 := ⟨_, rfl⟩
  rw [hW1]
  have J2 : W1.heap[g]? = some (.cells #[.slice (some ad) l.length c, .int .i64 (at_ + 1), .int .i64 e] 57 (0, 0)) := by rw [← hW1]; exact set_at I2.out
  have hm : Mu (· = g) w W1 := by rw [← hW1]; exact ((Mu.refl (· = g) w).drewN _).setCell (p := ⟨g, 1, none⟩) (fun _ => rfl) _
  have hx1 : W1.cell? (ad.add at_.toNat) = some (.int .u8 (rd l at_)) := by
    rw [← hx, ← hW1]
    exact World.cell?_of_block (w := w) (Below.heap_setCell _ _ _ _ (by rw [add_block]; exact hne))
  have d0 := blk_cell J2 0
  have d1 := blk_cell J2 1
  clear hW1 c0 c1 fz hx
  go_quiet (fail)
  go_wp2
  go_ret
  have h3 : Mu (· = g) w (W1.drewN nq) := hm.drewN nq
  refine ⟨rfl, HI.out.put h3 (fun v hv => ?_), h3⟩
  rw [I2.out] at hv
  obtain rfl : Value.slice (some ad) l.length c = v := by
    injection hv with hv
    injection hv with hv
    simpa using hv
  exact J2
set_option maxHeartbeats 1000000 in
theorem byte_short {w : World} {F : Nat → Prop} {g : Nat} {l : List Int} {at_ e : Int} (hI : IsRd w F g l at_ e) (h1 : at_ = l.length) :
    Calls Try.prog 44 #[.pointer (some ⟨g, 0, none⟩)] w fun en w' => en = .panicked [{ v := .iface 63 (.agg #[.int .i64 3]), recovered := false }] ∧ IsRd w' F g l at_ e ∧ Mu (· = g) w w' := by
  have HI := Aside0.mk hI
  obtain ⟨A, c, i1, i2, i3, i4, i5⟩ := hI
  have hlen := i4.2.1
  have c0 := blk_cell i2 0
  have c1 := blk_cell i2 1
  clear i1 i2 i4 i5
  have ht : (at_ == (l.length : Int)) = true := beq_iff_eq.2 (by omega)
  have H1 := Aside0.mk h1
  clear h1
  go_enter Try.func44, Try.ntmps44
  go_wp2
  go_quiet (fail)
  go_wp2
  exact ⟨rfl, rfl, HI.out.put ((Mu.refl _ _).drewN nq) (fun v hv => hv), (Mu.refl _ _).drewN nq⟩
end Go.Proofs.Ytabljieejnhefaa.Hand
