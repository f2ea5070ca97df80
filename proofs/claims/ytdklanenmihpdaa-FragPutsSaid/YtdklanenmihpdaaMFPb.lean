/- Texts of this claim, put together. -/
import Derived.ProofKit
import Derived.OpenShut
import Derived.DataReads
import Derived.DataElems
import Derived.SizedLaws
import Derived.Laws.Cover2
import Derived.Test.YtdklanenmihpdaaMFPWWords
import Derived.Test.YtdklanenmihpdaaProg
import Derived.WalkKit
import Derived.WalkSpells
import Derived.WalkLawsBesides
import Derived.Defers
import Derived.Recover
import Derived.Deep.QuietTactic
import Derived.BigQuiet
import Derived.Test.YtdklanenmihpdaaMFPWMore
import Derived.Test.YtdklanenmihpdaaMFPWLast
import Derived.StillTailTactics
import Derived.Deep.RegionHeld3
import Derived.Below
import Derived.Deep.Draws
import Derived.Deep.AppendLies
import Derived.Maps.AppendAt
import Derived.OwnWalk
import Derived.Laws.BytesArg
import Derived.Laws.MakeOwn
import Derived.Laws.OwnMore
import Derived.Deep.OwnRows
import Derived.Tactics
import Derived.Lib.ConvBytes
import Derived.Laws.Slices
import Derived.KernelRfl
import Derived.RowKit3
import Derived.Deep.LoopGhost
import Derived.WideLaws
import Derived.Deep.DeepCutAuto
import Derived.Deep.CutBlock
import Derived.Laws.Rows
import Derived.Lib.AppendStr
import Derived.ArgAppend
import Derived.Laws.IdiomCopy
import Derived.OrdersHeld
import Derived.Laws.BitsLemmas
import Derived.RowKit
import Derived.Test.YtdklanenmihpdaaMFPWApart
import Derived.Test.YtdklanenmihpdaaMFPWFoot
import Derived.Test.YtdklanenmihpdaaMFPWShare
import Derived.Test.YtdklanenmihpdaaMFPWN
import Derived.Laws.StructEq
import Derived.Test.YtdklanenmihpdaaMFPWRepsOne
import Derived.Test.YtdklanenmihpdaaMFPWNEv
import Derived.Shelf.Bytes.SlJoin
import Derived.Laws.BitsAllLaws
import Derived.Test.YtdklanenmihpdaaMFPa
import Derived.Laws.Tables
import Derived.Maps.Views
import Derived.Maps.OwnSet
import Derived.Maps.OwnIn
set_option linter.unusedVariables false
set_option linter.unusedSimpArgs false
namespace Go.Proofs.Ytdklanenmihpdaa.Opens
open Go.RowKit Go.Proofs.YtdklanenmihpdaaW.PrintWords
variable {P : Program}
def Opens {α : Type} (P : Program) (t : TypeId) (d : Kd α) (Q : α → Prop) : Prop :=
  ∀ (H : Type) (enc : TypeId × Value → H) (w : World) (base : Nat) (spare : Nat → Bool) (held : Bool) (fuel : Nat) (cs : List Value) (x : DataW H × List MemPlace),
    DataW.trod enc P w base spare held fuel t cs = some x → ∃ a, d.K w a cs ∧ Q a
theorem o_int {t : TypeId} {k : IntKind} (h : P.underlying t = some (.int k)) : Opens P t (Kd.int k) (fun n => (Lit.int k n).wf = true) := by
  intro H enc w base spare held fuel cs x hx
  obtain ⟨n, rfl, _, hw⟩ := DataW.trod_int h hx
  exact ⟨n, rfl, hw⟩
theorem mapM_get {α β : Type} {f : α → Option β} : ∀ {l : List α} {r : List β}, l.mapM f = some r → r.length = l.length ∧ ∀ (i : Nat) a, l[i]? = some a → ∃ b, f a = some b ∧ r[i]? = some b
  | [], r, h => by
    simp at h
    subst h
    exact ⟨rfl, fun i a h => by simp at h⟩
  | x :: l, r, h => by
    rw [List.mapM_cons] at h
    cases hx : f x with
    | none => simp [hx] at h
    | some y =>
      cases hl : l.mapM f with
      | none => simp [hx, hl] at h
      | some ys =>
        simp [hx, hl] at h
        subst h
        obtain ⟨h1, h2⟩ := mapM_get hl
        refine ⟨by simp [h1], fun i a ha => ?_⟩
        cases i with
        | zero =>
          simp at ha
          subst ha
          exact ⟨y, hx, by simp⟩
        | succ i => exact h2 i a (by simpa using ha)
theorem sized_any {H : Type} {enc : TypeId × Value → H} {W : World} {base : Nat} {spare : Nat → Bool} {held : Bool} {t e : TypeId} {a : Option Addr} {len cap : Nat} {d : DataW H} {ps : List MemPlace} {ts : List TypeId} {ds : List (DataW H)} {j : Nat}
    (hsz : (DataW.weightsEach P ts ds).all (· ≤ reachBytes) = true) (ht : ts[j]? = some t) (hd : ds[j]? = some d) (hu : P.underlying t = some (.slice e))
    (h : DataW.Trod enc P W base spare held t (.slice a len cap) d ps) : len * P.bytesOf e ≤ 140737488351232 := by
  obtain ⟨fuel, hf⟩ := h
  cases fuel with
  | zero => simp [DataW.trod] at hf
  | succ n =>
    unfold DataW.trod at hf
    rw [hu] at hf
    simp only [Value.cells] at hf
    split at hf
    all_goals first | (exfalso; simp_all; done) | skip
    · rename_i he
      simp at he
      obtain ⟨_, rfl, _⟩ := he
      simp
    · rename_i e' a' len' cap' he1 he2
      obtain rfl : e = e' := by simpa using he1
      simp at he2
      obtain ⟨rfl, rfl, rfl⟩ := he2
      split at hf
      · rw [Option.bind_eq_some_iff] at hf
        obtain ⟨elems, hm, hf⟩ := hf
        rw [Option.map_eq_some_iff] at hf
        obtain ⟨rest, _, hf⟩ := hf
        obtain ⟨hx, _⟩ := Prod.mk.inj hf
        subst hx
        have z := sized_slice hsz ht hd hu
        have hl := (mapM_get hm).1
        rw [List.length_range] at hl
        rw [List.length_map, List.length_map, hl] at z
        have : len * P.bytesOf e ≤ (len + rest.length) * P.bytesOf e := Nat.mul_le_mul_right _ (by omega)
        have z2 : reachBytes = 140737488351232 := rfl
        omega
      · cases hf
theorem cells_get {w : World} {base : Nat} {a : Addr} {n : Nat} {cs : List Value} (h : w.cells? base a n = some cs) : cs.length = n ∧ ∀ (i : Nat) u, cs[i]? = some u → w.cell? (a.add i) = some u := by
  obtain ⟨_, hl, hi⟩ := World.cells?_some h
  refine ⟨hl, fun i u hu => ?_⟩
  have : i < n := by
    rcases Nat.lt_or_ge i cs.length with g | g
    · omega
    · rw [List.getElem?_eq_none g] at hu; cases hu
  rw [hi i this, hu]
theorem o_slice {α : Type} {t e : TypeId} {d : Kd α} {Q : α → Prop} (ht : P.underlying t = some (.slice e)) (hc : P.cellsOf e = d.sz) (h : Opens P e d Q) :
    Opens P t (Kd.slice e d) (fun l => l.length ≤ maxLen ∧ ∀ x ∈ l, Q x) := by
  intro H enc w base spare held fuel cs x hx
  cases fuel with
  | zero => simp [DataW.trod] at hx
  | succ n =>
    unfold DataW.trod at hx
    rw [ht] at hx
    split at hx
    all_goals first | (exfalso; simp_all; done) | skip
    · exact ⟨[], ⟨none, 0, rfl, Nat.le_refl _, Kd.C_nil _ _⟩, Nat.zero_le _, fun _ h => by cases h⟩
    · rename_i e' a len cap he
      obtain rfl : e = e' := by simpa using he
      split at hx
      · rename_i hb
        obtain ⟨hb1, hb2, hb3⟩ := hb
        rw [Option.bind_eq_some_iff] at hx
        obtain ⟨elems, hm, _⟩ := hx
        obtain ⟨hl, hg⟩ := mapM_get hm
        rw [List.length_range] at hl
        have each : ∀ i, i < len → ∃ c : List Value, c.length = d.sz ∧ (∃ a, d.K w a c ∧ Q a) ∧ ∀ j u, c[j]? = some u → w.cell? (a.add (i * d.sz + j)) = some u := by
          intro i hi
          obtain ⟨b, hb, _⟩ := hg i i (by simp [hi])
          rw [Option.bind_eq_some_iff] at hb
          obtain ⟨c, hc1, hc2⟩ := hb
          obtain ⟨hl1, hl2⟩ := cells_get hc1
          obtain ⟨z, hz, hq⟩ := h H enc w base spare held n c b hc2
          refine ⟨c, by omega, ⟨z, hz, hq⟩, fun j u hu => ?_⟩
          have := hl2 j u hu
          rw [hc] at this
          rw [← this, Addr.add_add]
        have pick : ∀ m, m ≤ len → ∃ l : List α, l.length = m ∧ (∀ x ∈ l, Q x) ∧ ∀ j p, l[j]? = some p → ∃ c : List Value, c.length = d.sz ∧ d.K w p c ∧ ∀ i u, c[i]? = some u → w.cell? (a.add (j * d.sz + i)) = some u := by
          intro m
          induction m with
          | zero => exact fun _ => ⟨[], rfl, fun _ h => by (cases h), fun j p h => by simp at h⟩
          | succ m ih =>
            intro hm
            obtain ⟨l, h1, h2, h3⟩ := ih (by omega)
            obtain ⟨c, c1, ⟨z, c2, c3⟩, c4⟩ := each m (by omega)
            refine ⟨l ++ [z], by simp [h1], ?_, ?_⟩
            · intro x hx
              rcases List.mem_append.1 hx with hx | hx
              · exact h2 x hx
              · rw [List.mem_singleton.1 hx]; exact c3
            · intro j p hp
              rcases Nat.lt_or_ge j m with g | g
              · rw [List.getElem?_append_left (by omega)] at hp
                exact h3 j p hp
              · rw [List.getElem?_append_right (by omega)] at hp
                have hj : j = m := by
                  rcases Nat.lt_or_ge (j - l.length) 1 with g2 | g2
                  · omega
                  · rw [List.getElem?_eq_none (by simpa using g2)] at hp; cases hp
                subst hj
                rw [h1, Nat.sub_self] at hp
                simp at hp
                subst hp
                exact ⟨c, c1, c2, c4⟩
        obtain ⟨l, l1, l2, l3⟩ := pick len (Nat.le_refl _)
        subst l1
        refine ⟨l, ⟨some a, cap, rfl, hb2, ⟨rfl, ?_, fun _ => ⟨a, rfl, l3⟩⟩⟩, Nat.le_trans hb2 hb3, l2⟩
        have : maxLen ≤ 9223372036854775807 := by unfold maxLen; omega
        omega
      · cases hx
theorem open_arg {α : Type} {t : TypeId} {d : Kd α} {Q : α → Prop} (h : Opens P t d Q) {H : Type} {enc : TypeId × Value → H} {w : World} {base : Nat} {spare : Nat → Bool} {held : Bool} {v : Value} {D : DataW H} {ps : List MemPlace}
    (hx : DataW.Trod enc P w base spare held t v D ps) : ∃ a, d.K w a v.cells.toList ∧ Q a := by
  obtain ⟨fuel, hf⟩ := hx
  exact h H enc w base spare held fuel _ _ hf
end Go.Proofs.Ytdklanenmihpdaa.Opens
namespace Go.Proofs.Ytdklanenmihpdaa.Hand
open Go.RowKit Go.Proofs.YtdklanenmihpdaaW.PrintWords Go.Proofs.YtdklanenmihpdaaW.PrintLast
structure Mu (S : Nat → Prop) (w w' : World) : Prop where
  os : w'.os = w.os
  tape : w'.tape = w.tape
  output : w'.output = w.output
  size : w.heap.size ≤ w'.heap.size
  block : ∀ k, k < w.heap.size → ¬ S k → w'.heap[k]? = w.heap[k]?
theorem Mu.refl (S : Nat → Prop) (w : World) : Mu S w w := ⟨rfl, rfl, rfl, Nat.le_refl _, fun _ _ _ => rfl⟩
theorem Mu.trans {S : Nat → Prop} {a b c : World} (h : Mu S a b) (k : Mu S b c) : Mu S a c :=
  ⟨k.os.trans h.os, k.tape.trans h.tape, k.output.trans h.output, Nat.le_trans h.size k.size, fun i hi hs => (k.block i (Nat.lt_of_lt_of_le hi h.size) hs).trans (h.block i hi hs)⟩
theorem Mu.mono {S T : Nat → Prop} {w w' : World} (h : Mu S w w') (hST : ∀ k, k < w.heap.size → S k → T k) : Mu T w w' := ⟨h.os, h.tape, h.output, h.size, fun k hk ht => h.block k hk (fun hs => ht (hST k hk hs))⟩
theorem Mu.drewN {S : Nat → Prop} {a w : World} (h : Mu S a w) (n : Nat) : Mu S a (w.drewN n) := ⟨h.os, h.tape, h.output, h.size, h.block⟩
theorem Mu.drew {S : Nat → Prop} {a w : World} (h : Mu S a w) : Mu S a w.drew := ⟨h.os, h.tape, h.output, h.size, h.block⟩
theorem Mu.alloc {S : Nat → Prop} {a w : World} (h : Mu S a w) (o : Obj) : Mu S a (w.alloc o) :=
  h.trans ⟨rfl, rfl, rfl, by simp, fun k hk _ => Below.heap_alloc _ _ _ hk⟩
theorem Mu.setCell {S : Nat → Prop} {a w : World} (h : Mu S a w) {p : Addr} (hp : p.block < a.heap.size → S p.block) (u : Value) : Mu S a (w.setCell p u) :=
  ⟨h.os, h.tape, h.output, by simpa [World.setCell] using h.size, fun k hk hs => (Below.heap_setCell _ _ _ _ (fun e => hs (by rw [e]; exact hp (by omega)))).trans (h.block k hk hs)⟩
theorem Mu.of_below {w w' : World} (h : Below w.heap.size w w') (S : Nat → Prop) : Mu S w w' := ⟨h.os, h.tape, h.output, h.size, fun k hk _ => h.block k hk⟩
theorem Mu.below_of {S : Nat → Prop} {w0 w w' : World} (hb : Below w0.heap.size w0 w) (h : Mu S w w') (hS : ∀ k, k < w0.heap.size → ¬ S k) : Below w0.heap.size w0 w' :=
  hb.trans ⟨h.os, h.tape, h.output, h.size, fun k hk => h.block k (Nat.lt_of_lt_of_le hk hb.size) (hS k hk)⟩
theorem heap_lt {w : World} {g : Nat} {o : Obj} (h : w.heap[g]? = some o) : g < w.heap.size := by
  rcases Nat.lt_or_ge g w.heap.size with h1 | h1
  · exact h1
  · rw [Array.getElem?_eq_none h1] at h; cases h
theorem Mu.heap {S : Nat → Prop} {w w' : World} (h : Mu S w w') {g : Nat} {o : Obj} (hg : w.heap[g]? = some o) (hs : ¬ S g) : w'.heap[g]? = some o := (h.block g (heap_lt hg) hs).trans hg
theorem C_mu {k : IntKind} {S : Nat → Prop} {w w' : World} (h : Mu S w w') {A : Option Addr} {n : Nat} {l : List Int} (hC : Kd.C (Kd.int k) w A n l) (hA : ∀ ad, A = some ad → 0 < n → ¬ S ad.block) : Kd.C (Kd.int k) w' A n l := by
  obtain ⟨h1, h2, h3⟩ := hC
  refine ⟨h1, h2, fun hn => ?_⟩
  obtain ⟨ad, e, hc⟩ := h3 hn
  refine ⟨ad, e, fun j p hj => ?_⟩
  obtain ⟨c, c1, c2, c3⟩ := hc j p hj
  refine ⟨c, c1, c2, fun i u hu => ?_⟩
  have := c3 i u hu
  have hb : (ad.add (j * (Kd.int k).sz + i)).block = ad.block := by unfold Addr.add; split <;> rfl
  have hlt := World.block_lt_of_cell? _ _ this
  rw [World.cell?_of_block (w := w)]
  · exact this
  · rw [hb] at hlt ⊢
    exact h.block _ hlt (hA ad e hn)
def IsRd (w : World) (F : Nat → Prop) (g : Nat) (l : List Int) (at_ e : Int) : Prop :=
  ∃ (A : Option Addr) (c : Nat), F g ∧ w.heap[g]? = some (.cells #[.slice A l.length c, .int .i64 at_, .int .i64 e] 109 (0, 0)) ∧ l.length ≤ c ∧ Kd.C (Kd.int .u8) w A l.length l ∧
    (∀ ad, A = some ad → 0 < l.length → F ad.block ∧ ad.block ≠ g)
theorem IsRd.mu {w w' : World} {S F : Nat → Prop} {g : Nat} {l : List Int} {at_ e : Int} (h : IsRd w F g l at_ e) (hm : Mu S w w') (hF : ∀ k, F k → ¬ S k) : IsRd w' F g l at_ e := by
  obtain ⟨A, c, h1, h2, h3, h4, h5⟩ := h
  exact ⟨A, c, h1, hm.heap h2 (hF g h1), h3, C_mu hm h4 (fun ad ea hn => hF _ (h5 ad ea hn).1), h5⟩
theorem IsRd.len {w : World} {F : Nat → Prop} {g : Nat} {l : List Int} {at_ e : Int} (h : IsRd w F g l at_ e) : l.length ≤ 9223372036854775807 := by
  obtain ⟨A, c, h1, h2, h3, h4, h5⟩ := h
  exact h4.2.1
theorem IsRd.put {w w' : World} {F : Nat → Prop} {g : Nat} {l : List Int} {at_ e at' e' : Int} (h : IsRd w F g l at_ e) (hm : Mu (· = g) w w')
    (hg : ∀ v : Value, w.heap[g]? = some (.cells #[v, .int .i64 at_, .int .i64 e] 109 (0, 0)) → w'.heap[g]? = some (.cells #[v, .int .i64 at', .int .i64 e'] 109 (0, 0))) : IsRd w' F g l at' e' := by
  obtain ⟨A, c, h1, h2, h3, h4, h5⟩ := h
  exact ⟨A, c, h1, hg _ h2, h3, C_mu hm h4 (fun ad ea hn => (h5 ad ea hn).2), h5⟩
theorem add_block (ad : Addr) (n : Nat) : (ad.add n).block = ad.block := by unfold Addr.add; split <;> rfl
theorem set_at {w : World} {g t : Nat} {v a e x : Value} (h : w.heap[g]? = some (.cells #[v, a, e] t (0, 0))) : (w.setCell ⟨g, 1, none⟩ x).heap[g]? = some (.cells #[v, x, e] t (0, 0)) := by
  simp [World.setCell, Array.getElem?_modify, h]
theorem set_e {w : World} {g t : Nat} {v a e x : Value} (h : w.heap[g]? = some (.cells #[v, a, e] t (0, 0))) : (w.setCell ⟨g, 2, none⟩ x).heap[g]? = some (.cells #[v, a, x] t (0, 0)) := by
  simp [World.setCell, Array.getElem?_modify, h]
set_option maxHeartbeats 1000000 in
theorem byte_ok {w : World} {F : Nat → Prop} {g : Nat} {l : List Int} {at_ e : Int} (hI : IsRd w F g l at_ e) (h0 : 0 ≤ at_) (h1 : at_ < l.length) :
    Calls Try.prog 75 #[.pointer (some ⟨g, 0, none⟩)] w fun en w' => en = .returned (.int .u8 (rd l at_)) ∧ IsRd w' F g l (at_ + 1) e ∧ Mu (· = g) w w' := by
  have HI := Aside0.mk hI
  obtain ⟨A, c, i1, i2, i3, i4, i5⟩ := hI
  have I2 := Aside0.mk i2
  have hlen := i4.2.1
  have c0 := blk_cell i2 0
  have c1 := blk_cell i2 1
  have fz := blk_frozen i2 1
  obtain ⟨ad, ea, hx⟩ := Kd.at_int i4 at_ h0 h1
  subst ea
  have hne : ad.block ≠ g := (i5 ad rfl (by omega)).2
  clear i1 i2 i4 i5
  have ht : (at_ == (l.length : Int)) = false := beq_eq_false_iff_ne.2 (by omega)
  go_enter Try.func75, Try.ntmps75
  go_wp2
  go_quiet (fail)
  go_wp2
  obtain ⟨W1, hW1⟩ : ∃ W1, (w.drewN nq).setCell ⟨g, 1, none⟩ (.int .i64 (at_ + 1)) = W1 := ⟨_, rfl⟩
  rw [hW1]
  have J2 : W1.heap[g]? = some (.cells #[.slice (some ad) l.length c, .int .i64 (at_ + 1), .int .i64 e] 109 (0, 0)) := by rw [← hW1]; exact set_at I2.out
  have hm : Mu (· = g) w W1 := by rw [← hW1]; exact ((Mu.refl (· = g) w).drewN _).setCell (p := ⟨g, 1, none⟩) (fun _ => rfl) _
  have hx1 : W1.cell? (ad.add at_.toNat) = some (.int .u8 (rd l at_)) := by
    rw [← hx, ← hW1]
    exact World.cell?_of_block (w := w) (Below.heap_setCell _ _ _ _ (by rw [add_block]; exact hne))
  have d0 := blk_cell J2 0
  have d1 := blk_cell J2 1
  clear hW1 c0 c1 fz hx
  go_quiet (fail)
  go_wp2
  go_ret
  have h3 : Mu (· = g) w (W1.drewN nq) := hm.drewN nq
  refine ⟨rfl, HI.out.put h3 (fun v hv => ?_), h3⟩
  rw [I2.out] at hv
  obtain rfl : Value.slice (some ad) l.length c = v := by
    injection hv with hv
    injection hv with hv
    simpa using hv
  exact J2
set_option maxHeartbeats 1000000 in
theorem byte_short {w : World} {F : Nat → Prop} {g : Nat} {l : List Int} {at_ e : Int} (hI : IsRd w F g l at_ e) (h1 : at_ = l.length) :
    Calls Try.prog 75 #[.pointer (some ⟨g, 0, none⟩)] w fun en w' => en = .panicked [{ v := .iface 113 (.agg #[.int .i64 3]), recovered := false }] ∧ IsRd w' F g l at_ e ∧ Mu (· = g) w w' := by
  have HI := Aside0.mk hI
  obtain ⟨A, c, i1, i2, i3, i4, i5⟩ := hI
  have hlen := i4.2.1
  have c0 := blk_cell i2 0
  have c1 := blk_cell i2 1
  clear i1 i2 i4 i5
  have ht : (at_ == (l.length : Int)) = true := beq_iff_eq.2 (by omega)
  have H1 := Aside0.mk h1
  clear h1
  go_enter Try.func75, Try.ntmps75
  go_wp2
  go_quiet (fail)
  go_wp2
  exact ⟨rfl, rfl, HI.out.put ((Mu.refl _ _).drewN nq) (fun v hv => hv), (Mu.refl _ _).drewN nq⟩
end Go.Proofs.Ytdklanenmihpdaa.Hand
namespace Go.Proofs.Ytdklanenmihpdaa.Hand
open Go.RowKit Go.Proofs.YtdklanenmihpdaaW.PrintWords Go.Proofs.YtdklanenmihpdaaW.PrintLast
def stopV (e : Int) : List PanicEntry := [{ v := .iface 113 (.agg #[.int .i64 e]), recovered := false }]
def vstep (n c : Int) (i : Nat) : Int := Go.bits .or .u64 n (IntKind.u64.wrap (IntKind.u64.wrap (Go.bits .andNot .u8 c 128) * 2 ^ (7 * i)))
def numL (l : List Int) : Nat → Nat → Int → Int → Except Int (Int × Int)
  | 0, _, _, _ => .error 2
  | k + 1, i, n, at_ => if at_ = l.length then .error 3 else if (i = 9 ∧ rd l at_ > 1) ∨ (rd l at_ = 0 ∧ 0 < i) then .error 2 else
    if rd l at_ < 128 then .ok (vstep n (rd l at_) i, at_ + 1) else numL l k (i + 1) (vstep n (rd l at_) i) (at_ + 1)
def NumPost (F : Nat → Prop) (g : Nat) (l : List Int) (e : Int) (w : World) (enc : Int → Value) : Except Int (Int × Int) → Ending → World → Prop
  | .ok (n, at'), en, w' => en = .returned (enc n) ∧ IsRd w' F g l at' e ∧ at' ≤ l.length ∧ 0 ≤ at' ∧ Mu (· = g) w w'
  | .error x, en, w' => en = .panicked (stopV x) ∧ (∃ at', IsRd w' F g l at' e) ∧ Mu (· = g) w w'
set_option maxHeartbeats 2000000 in
theorem num_as {w : World} {F : Nat → Prop} {g : Nat} {l : List Int} {at_ e : Int} {R : Except Int (Int × Int)} (hR : numL l 10 0 0 at_ = R) (hI : IsRd w F g l at_ e) (h0 : 0 ≤ at_) (h1 : at_ ≤ l.length) :
    Calls Try.prog 67 #[.pointer (some ⟨g, 0, none⟩)] w (NumPost F g l e w (Value.int .u64) R) := by
  have HI := Aside0.mk hI
  have HR0 := Aside0.mk hR
  clear hR
  have hlen := hI.len
  clear hI
  go_enter Try.func67, Try.ntmps67
  go_wp2
  go_loopw [3, 6] (fun v3 v6 wr => ∃ (i : Nat) (n p : Int), i ≤ 10 ∧ v6 = .int .i64 i ∧ v3 = .int .u64 n ∧ 0 ≤ p ∧ p ≤ l.length ∧ Aside0 (numL l (10 - i) i n p = R) ∧ Aside0 (IsRd wr F g l p e) ∧ Aside0 (Mu (· = g) w wr)) (fun _ v6 _ => 10 - (intOf v6).toNat)
  case atStart => exact ⟨0, 0, at_, by omega, rfl, rfl, h0, h1, HR0, HI, ⟨Mu.refl _ _⟩⟩
  case round =>
    obtain ⟨i, n, p, hi, rfl, rfl, p0, p1, HN, HR, HM⟩ := hrel
    clear HI HR0 h0 h1
    by_cases hlt : i < 10
    · have hk : 10 - i = (9 - i) + 1 := by omega
      by_cases hp : p = l.length
      · have hr : R = .error 3 := by rw [← HN.out, hk]; simp only [numL]; rw [if_pos hp]
        have HP := Aside0.mk hp
        clear hp hk
        have Hr := Aside0.mk hr
        clear hr HN
        go_wp2_with fail
        refine (byte_short HR.out HP.out).mono ?_
        rintro en w1 ⟨rfl, hI1, hm1⟩
        refine ⟨rfl, ?_⟩
        rw [Hr.out]
        exact ⟨rfl, ⟨_, hI1⟩, HM.out.trans hm1⟩
      · have hp' : p < l.length := by omega
        have hr : R = if (i = 9 ∧ rd l p > 1) ∨ (rd l p = 0 ∧ 0 < i) then .error 2 else if rd l p < 128 then .ok (vstep n (rd l p) i, p + 1) else numL l (9 - i) (i + 1) (vstep n (rd l p) i) (p + 1) := by
          rw [← HN.out, hk]; simp only [numL]; rw [if_neg hp]
        have HP := Aside0.mk hp
        clear hp hk HN
        go_wp2_with fail
        refine (byte_ok HR.out p0 hp').mono ?_
        rintro en w1 ⟨rfl, hI1, hm1⟩
        have HI1 := Aside0.mk hI1
        have HM1 := Aside0.mk (HM.out.trans hm1)
        clear hI1 hm1 HR HM
        generalize rd l p = c at *
        by_cases hA : i = 9 ∧ 1 < c
        · rw [if_pos (.inl hA)] at hr
          obtain ⟨a1, a2⟩ := hA
          have e1 : ((i : Int) == 9) = true := beq_iff_eq.2 (by omega)
          clear a1
          have Hr := Aside0.mk hr
          clear hr
          go_wp2
          refine ⟨rfl, ?_⟩
          rw [Hr.out]
          exact ⟨rfl, ⟨_, HI1.out⟩, HM1.out⟩
        · have e1 : (((i : Int) == 9) && decide (1 < c)) = false := by
            rw [Bool.and_eq_false_iff]
            by_cases h9 : i = 9
            · right; exact decide_eq_false (fun h => hA ⟨h9, h⟩)
            · left; exact beq_eq_false_iff_ne.2 (by omega)
          by_cases hB : c = 0 ∧ 0 < i
          · rw [if_pos (.inr hB)] at hr
            obtain ⟨a1, a2⟩ := hB
            have e2 : (c == 0) = true := beq_iff_eq.2 a1
            have e3 : decide (1 < c) = false := decide_eq_false (by omega)
            clear a1 e1 hA
            have Hr := Aside0.mk hr
            clear hr
            go_wp2
            all_goals
              refine ⟨rfl, ?_⟩
              rw [Hr.out]
              exact ⟨rfl, ⟨_, HI1.out⟩, HM1.out⟩
          · rw [if_neg (by rintro (h | h); exact hA h; exact hB h)] at hr
            have e2 : ((c == 0) && decide (0 < i)) = false := by
              rw [Bool.and_eq_false_iff]
              by_cases h9 : c = 0
              · right; exact decide_eq_false (fun h => hB ⟨h9, by omega⟩)
              · left; exact beq_eq_false_iff_ne.2 (by omega)
            clear hA hB
            have key : ∀ (x y : Bool), ((i : Int) == 9) = x → (c == 0) = y → (x = true → decide (1 < c) = false) ∧ (y = true → decide (0 < i) = false) := by
              intro x y hx hy
              rw [hx] at e1
              rw [hy] at e2
              constructor
              · rintro rfl; simpa using e1
              · rintro rfl; simpa using e2
            clear e1 e2
            by_cases h128 : c < 128
            · rw [if_pos h128] at hr
              have Hr := Aside0.mk hr
              clear hr
              cases e1 : ((i : Int) == 9) <;> cases e2 : (c == 0) <;> obtain ⟨k1, k2⟩ := key _ _ e1 e2 <;> clear key
              all_goals
                first | (have k3 := k1 rfl) | skip
                first | (have k4 := k2 rfl) | skip
                clear k1 k2
                first | (exfalso; simp at e1 k4; omega) | (go_wp2; go_ret; rw [Hr.out]; exact ⟨rfl, HI1.out, by omega, by omega, HM1.out⟩)
            · rw [if_neg h128] at hr
              have HN1 := Aside0.mk hr.symm
              clear hr
              cases e1 : ((i : Int) == 9) <;> cases e2 : (c == 0) <;> obtain ⟨k1, k2⟩ := key _ _ e1 e2 <;> clear key
              all_goals
                first | (have k3 := k1 rfl) | skip
                first | (have k4 := k2 rfl) | skip
                clear k1 k2
                first | (exfalso; simp at k3; omega) | (exfalso; simp at e2; omega) | (go_wp2; go_roundw)
                try case rel => exact ⟨i + 1, vstep n c i, p + 1, by omega, by go_num, rfl, by omega, by omega, ⟨by rw [show 10 - (i + 1) = 9 - i by omega]; exact HN1.out⟩, HI1, HM1⟩
                try case measure => simp [intOf]; omega
    · have hr : R = .error 2 := by rw [← HN.out, show 10 - i = 0 by omega]; rfl
      have Hr := Aside0.mk hr
      clear hr HN
      go_wp2
      refine ⟨rfl, ?_⟩
      rw [Hr.out]
      exact ⟨rfl, ⟨_, HR.out⟩, HM.out⟩
end Go.Proofs.Ytdklanenmihpdaa.Hand
namespace Go.Proofs.Ytdklanenmihpdaa.Hand
open Go.RowKit Go.Proofs.YtdklanenmihpdaaW.PrintWords Go.Proofs.YtdklanenmihpdaaW.PrintLast
theorem alloc_blk {w : World} {g : Nat} {o O : Obj} (h : w.heap[g]? = some o) : (w.alloc O).heap[g]? = some o := (Below.heap_alloc _ _ _ (heap_lt h)).trans h
set_option maxHeartbeats 1000000 in
theorem caught_nil {w : World} {p : Addr} :
    Calls Try.prog 74 #[.nilIface, .pointer (some p)] w fun en w' => en = .returned (.tuple #[]) ∧ w' = w := by
  go_enter Try.func74, Try.ntmps74
  go_wp2
  go_end0
  exact ⟨rfl, rfl⟩
set_option maxHeartbeats 1000000 in
theorem caught_stop {w : World} {g : Nat} {v a e : Value} {X : Int} (h : w.heap[g]? = some (.cells #[v, a, e] 109 (0, 0))) :
    Calls Try.prog 74 #[.iface 113 (.agg #[.int .i64 X]), .pointer (some ⟨g, 2, none⟩)] w fun en w' => en = .returned (.tuple #[]) ∧ w'.heap[g]? = some (.cells #[v, a, .int .i64 X] 109 (0, 0)) ∧ Mu (· = g) w w' := by
  have h1 := alloc_blk (O := .cells #[.int .i64 X] 113) h
  have c2 := blk_cell h1 2
  have fz := blk_frozen h1 2
  have hta : ∀ (v : Value) (W : World), (Instr.typeAssert (.iface 113 v) 20 113 true).run Try.prog W = .ok (.tuple #[v, .bool true]) W := fun v W => by kernel_rfl
  have H := Aside0.mk h1
  clear h h1
  go_enter Try.func74, Try.ntmps74
  go_wp2
  go_end0
  exact ⟨rfl, set_e H.out, ((Mu.refl (· = g) w).alloc _).setCell (p := ⟨g, 2, none⟩) (fun _ => rfl) _⟩
theorem set_0 {w : World} {g t : Nat} {v x : Value} (h : w.heap[g]? = some (.cells #[v] t (0, 0))) : (w.setCell ⟨g, 0, none⟩ x).heap[g]? = some (.cells #[x] t (0, 0)) := by
  simp [World.setCell, Array.getElem?_modify, h]
def allOrders (md : Region.Mode) (ops : Array Oper) : Nat → Array Bool → List (List Nat)
  | 0, _ => [[]]
  | fuel + 1, listed => match Region.ready md ops listed with
    | [] => [[]]
    | r => r.flatMap fun i => (allOrders md ops fuel (listed.setIfInBounds i true)).map (i :: ·)
theorem mem_allOrders (md : Region.Mode) (ops : Array Oper) : ∀ (fuel t : Nat) (listed : Array Bool), Region.linearise.go md ops fuel t listed [] ∈ allOrders md ops fuel listed := by
  intro fuel
  induction fuel with
  | zero => intro t listed; simp [Region.linearise.go, allOrders]
  | succ fuel ih =>
    intro t listed
    simp only [Region.linearise.go]
    change (match (Region.ready md ops listed)[t % (Region.ready md ops listed).length]? with
      | some i => Region.linearise.go md ops fuel (t / (Region.ready md ops listed).length) (listed.setIfInBounds i true) [i]
      | none => [].reverse) ∈ _
    cases hi : (Region.ready md ops listed)[t % (Region.ready md ops listed).length]? with
    | none =>
      have hnil : Region.ready md ops listed = [] := by
        cases hr : Region.ready md ops listed with
        | nil => rfl
        | cons x xs =>
          rw [hr] at hi
          have hlt : t % (x :: xs).length < (x :: xs).length := Nat.mod_lt _ (by simp)
          simp at hi
          simp at hlt
          omega
      simp [allOrders, hnil]
    | some i =>
      simp only []
      rw [linearise_go_acc, List.reverse_singleton, List.singleton_append]
      have hm := List.mem_of_getElem? hi
      unfold allOrders
      split
      · next h => rw [h] at hm; cases hm
      · exact List.mem_flatMap.2 ⟨i, hm, List.mem_map.2 ⟨_, ih _ _, rfl⟩⟩
theorem wpS_region_draw {P : Program} {Q : Exit → Act → List Frame → World → Prop} {a : Act} {cs : List Frame} {w : World} {id : Nat} {ops : Array Oper} (hm : P.follows .mixedOrders = true)
    {L : List (List Nat)} (hL : allOrders .any ops ops.size (Array.replicate ops.size false) = L) (h : ∀ l ∈ L, wpOpsS P ops Q l a cs { w with drawn := w.drawn + 1 }) : (Code.region id ops true).wpS P Q a cs w := by
  intro b k hb hr
  have hl := mem_allOrders .any ops ops.size (w.tape w.drawn (.order b.fn id)) (Array.replicate ops.size false)
  rw [hL] at hl
  obtain ⟨e, a', cs', w', q, r⟩ := wp_opsS _ a cs _ (h _ hl) b k hb hr
  refine ⟨e, a', cs', w', q, .of_steps (.one ?_) r⟩
  rw [step_region_draw]
  simp only [Region.schedule, hm, Bool.true_or, if_true]
  rfl
theorem wp_act {P : Program} {c : Code} {Q : Exit → Act → World → Prop} {a a' : Act} {w : World} (h : a = a') (k : Code.wp P c Q a' w) : Code.wp P c Q a w := h ▸ k
theorem wp_code {P : Program} {c c' : Code} {Q : Exit → Act → World → Prop} {a : Act} {w : World} (h : c = c') (k : Code.wp P c' Q a w) : Code.wp P c Q a w := h ▸ k
noncomputable def dU_rest : Code := match Try.f73.body with | some (.seq _ c) => c | _ => .skip
set_option maxHeartbeats 1000000 in
theorem dU_rest_stop {w w1 : World} {g pr pa pn px : Nat} {v a rv : Value} {X A : Int} (hX : (X != 0) = true) (nx : px ≠ g)
    (hg1 : w1.heap[g]? = some (.cells #[v, a, .int .i64 X] 109 (0, 0))) (hr1 : w1.heap[pr]? = some (.cells #[.pointer (some ⟨g, 0, none⟩)] 105 (0, 0)))
    (ha1 : w1.heap[pa]? = some (.cells #[.int .i64 A] 3 (0, 0))) (hn1 : w1.heap[pn]? = some (.cells #[.int .u64 0] 22 (0, 0))) (hx1 : w1.heap[px]? = some (.cells #[.int .u64 0] 22 (0, 0)))
    (hm1 : Mu (· = g) w w1) :
    Code.wp Try.prog dU_rest (fun e a' w' => e = .normal ∧ a'.defers = [] ∧ w'.heap[g]? = some (.cells #[v, .int .i64 A, .int .i64 X] 109 (0, 0)) ∧ w'.heap[px]? = some (.cells #[.int .u64 0] 22 (0, 0)) ∧ Mu (fun k => k = g ∨ k = px) w w')
      { tmps := #[.pointer (some ⟨pr, 0, none⟩), .pointer (some ⟨pa, 0, none⟩), .pointer (some ⟨pn, 0, none⟩), .pointer (some ⟨px, 0, none⟩), rv, .pointer (some ⟨g, 0, none⟩), .pointer (some ⟨g, 0, none⟩), .pointer (some ⟨g, 2, none⟩), .tuple #[], undef, undef, undef, undef, undef, undef, undef, undef, undef, undef], defers := [] } w1 := by
  have cr1 := blk_cell hr1 0
  have ca1 := blk_cell ha1 0
  have cn1 := blk_cell hn1 0
  have cg1 := blk_cell hg1 2
  have cg2 := blk_cell hg1 1
  have cx1 := blk_cell hx1 0
  have fg1 := blk_frozen hg1 1
  have fx1 := blk_frozen hx1 0
  have Hg1 := Aside0.mk hg1
  have Hx1 := Aside0.mk hx1
  have Hm1 := Aside0.mk hm1
  clear hg1 hm1 hr1 ha1 hn1 hx1
  unfold dU_rest Try.f73
  go_wp2
  refine ⟨?_, ?_, ?_⟩
  · rw [Below.heap_setCell _ _ _ _ (by exact fun e => nx e.symm)]
    exact set_at Hg1.out
  · exact set_0 ((Below.heap_setCell _ _ _ _ (by exact nx)).trans Hx1.out)
  · exact (((Mu.mono (Hm1.out) (fun k _ h => .inl h) : Mu (fun k => k = g ∨ k = px) w w1)).setCell (p := ⟨g, 1, none⟩) (fun _ => .inl rfl) _).setCell (p := ⟨px, 0, none⟩) (fun _ => .inr rfl) _
set_option maxHeartbeats 1000000 in
theorem dU_stop {w : World} {g pr pa pn px : Nat} {v a e : Value} {X A : Int} {older : List PanicEntry} (hX : (X != 0) = true) (nr : pr ≠ g) (na : pa ≠ g) (nn : pn ≠ g) (nx : px ≠ g)
    (hg : w.heap[g]? = some (.cells #[v, a, e] 109 (0, 0))) (hr : w.heap[pr]? = some (.cells #[.pointer (some ⟨g, 0, none⟩)] 105 (0, 0)))
    (ha : w.heap[pa]? = some (.cells #[.int .i64 A] 3 (0, 0))) (hn : w.heap[pn]? = some (.cells #[.int .u64 0] 22 (0, 0))) (hx : w.heap[px]? = some (.cells #[.int .u64 0] 22 (0, 0))) :
    CallsD Try.prog 73 #[.pointer (some ⟨pr, 0, none⟩), .pointer (some ⟨pa, 0, none⟩), .pointer (some ⟨pn, 0, none⟩), .pointer (some ⟨px, 0, none⟩)]
      (.panicking ({ v := .iface 113 (.agg #[.int .i64 X]), recovered := false } :: older)) w fun en u w' =>
      en = .returned (.tuple #[]) ∧ u = .panicking ({ v := .iface 113 (.agg #[.int .i64 X]), recovered := true } :: older) ∧
        w'.heap[g]? = some (.cells #[v, .int .i64 A, .int .i64 X] 109 (0, 0)) ∧ w'.heap[px]? = some (.cells #[.int .u64 0] 22 (0, 0)) ∧ Mu (fun k => k = g ∨ k = px) w w' := by
  refine callsD_of_wpS Try.func73 rfl fun c₀ cs hu => ?_
  have cr := blk_cell hr 0
  apply wpS_seq
  refine wpS_region_draw (by kernel_rfl) (L := [[0, 1, 2, 3, 4], [1, 0, 2, 3, 4], [1, 2, 0, 3, 4], [1, 2, 3, 0, 4]]) (by kernel_rfl) ?_
  intro l hl
  simp only [List.mem_cons, List.not_mem_nil, or_false] at hl
  have hg' : w.drew.heap[g]? = some (.cells #[v, a, e] 109 (0, 0)) := hg
  have fin : ∀ (en : Exit) (a' : Act) (w' : World), (en = .normal ∧ a'.defers = [] ∧ w'.heap[g]? = some (.cells #[v, .int .i64 A, .int .i64 X] 109 (0, 0)) ∧ w'.heap[px]? = some (.cells #[.int .u64 0] 22 (0, 0)) ∧ Mu (fun k => k = g ∨ k = px) w w') →
      bodyPostS Try.prog Try.f73 c₀ cs (fun en u w' => en = .returned (.tuple #[]) ∧ u = .panicking ({ v := .iface 113 (.agg #[.int .i64 X]), recovered := true } :: older) ∧
        w'.heap[g]? = some (.cells #[v, .int .i64 A, .int .i64 X] 109 (0, 0)) ∧ w'.heap[px]? = some (.cells #[.int .u64 0] 22 (0, 0)) ∧ Mu (fun k => k = g ∨ k = px) w w') en a'
        ({ c₀ with mode := .panicking ({ v := .iface 113 (.agg #[.int .i64 X]), recovered := true } :: older) } :: cs) w' := by
    rintro en a' w' ⟨rfl, hd, h1, h2, h3⟩
    exact ⟨hd, _, rfl, .tuple #[], results_none rfl _ _ _, rfl, rfl, h1, h2, h3⟩
  rcases hl with rfl | rfl | rfl | rfl
  all_goals
    simp [wpOpsS, go_sem, recoverD, hu, Try.ntmps73, cr]
    refine (caught_stop hg').mono ?_
    rintro en w1 ⟨rfl, hg1, hm1⟩
    refine wpS_of_wp ?_
    refine wp_act (a' := { tmps := #[.pointer (some ⟨pr, 0, none⟩), .pointer (some ⟨pa, 0, none⟩), .pointer (some ⟨pn, 0, none⟩), .pointer (some ⟨px, 0, none⟩), .iface 113 (.agg #[.int .i64 X]), .pointer (some ⟨g, 0, none⟩), .pointer (some ⟨g, 0, none⟩), .pointer (some ⟨g, 2, none⟩), .tuple #[], undef, undef, undef, undef, undef, undef, undef, undef, undef, undef], defers := [] }) (by kernel_rfl) ?_
    refine wp_code (c' := dU_rest) (by kernel_rfl) ?_
    exact Code.wp_mono fin (dU_rest_stop hX nx hg1 (hm1.heap (show w.drew.heap[pr]? = _ from hr) nr) (hm1.heap (show w.drew.heap[pa]? = _ from ha) na) (hm1.heap (show w.drew.heap[pn]? = _ from hn) nn) (hm1.heap (show w.drew.heap[px]? = _ from hx) nx) (Mu.trans ((Mu.refl _ _).drew) hm1))
set_option maxHeartbeats 1000000 in
theorem dU_rest_idle {w1 : World} {g pr : Nat} {v a p1 p2 p3 rv : Value}
    (hg1 : w1.heap[g]? = some (.cells #[v, a, .int .i64 0] 109 (0, 0))) (hr1 : w1.heap[pr]? = some (.cells #[.pointer (some ⟨g, 0, none⟩)] 105 (0, 0))) :
    Code.wp Try.prog dU_rest (fun e a' w' => e = .normal ∧ a'.defers = [] ∧ w' = w1)
      { tmps := #[.pointer (some ⟨pr, 0, none⟩), p1, p2, p3, rv, .pointer (some ⟨g, 0, none⟩), .pointer (some ⟨g, 0, none⟩), .pointer (some ⟨g, 2, none⟩), .tuple #[], undef, undef, undef, undef, undef, undef, undef, undef, undef, undef], defers := [] } w1 := by
  have cr1 := blk_cell hr1 0
  have cg1 := blk_cell hg1 2
  clear hg1 hr1
  unfold dU_rest Try.f73
  go_wp2
set_option maxHeartbeats 1000000 in
theorem dU_idle {w : World} {g pr : Nat} {v a p1 p2 p3 : Value}
    (hg : w.heap[g]? = some (.cells #[v, a, .int .i64 0] 109 (0, 0))) (hr : w.heap[pr]? = some (.cells #[.pointer (some ⟨g, 0, none⟩)] 105 (0, 0))) :
    CallsD Try.prog 73 #[.pointer (some ⟨pr, 0, none⟩), p1, p2, p3] .returning w fun en u w' =>
      en = .returned (.tuple #[]) ∧ u = .returning ∧ w' = w.drew := by
  refine callsD_of_wpS Try.func73 rfl fun c₀ cs hu => ?_
  have cr := blk_cell hr 0
  apply wpS_seq
  refine wpS_region_draw (by kernel_rfl) (L := [[0, 1, 2, 3, 4], [1, 0, 2, 3, 4], [1, 2, 0, 3, 4], [1, 2, 3, 0, 4]]) (by kernel_rfl) ?_
  intro l hl
  simp only [List.mem_cons, List.not_mem_nil, or_false] at hl
  have fin : ∀ (en : Exit) (a' : Act) (w' : World), (en = .normal ∧ a'.defers = [] ∧ w' = w.drew) →
      bodyPostS Try.prog Try.f73 c₀ cs (fun en u w' => en = .returned (.tuple #[]) ∧ u = .returning ∧ w' = w.drew) en a' (c₀ :: cs) w' := by
    rintro en a' w' ⟨rfl, hd, rfl⟩
    exact ⟨hd, .returning, by rw [← hu], .tuple #[], results_none rfl _ _ _, rfl, rfl, rfl⟩
  rcases hl with rfl | rfl | rfl | rfl
  all_goals
    simp [wpOpsS, go_sem, recoverD, hu, Try.ntmps73, cr]
    refine caught_nil.mono ?_
    rintro en w1 ⟨rfl, rfl⟩
    refine wpS_of_wp ?_
    refine wp_act (a' := { tmps := #[.pointer (some ⟨pr, 0, none⟩), p1, p2, p3, .nilIface, .pointer (some ⟨g, 0, none⟩), .pointer (some ⟨g, 0, none⟩), .pointer (some ⟨g, 2, none⟩), .tuple #[], undef, undef, undef, undef, undef, undef, undef, undef, undef, undef], defers := [] }) (by kernel_rfl) ?_
    refine wp_code (c' := dU_rest) (by kernel_rfl) ?_
    exact Code.wp_mono fin (dU_rest_idle hg hr)
noncomputable def dB_rest : Code := match Try.f76.body with | some (.seq _ c) => c | _ => .skip
set_option maxHeartbeats 1000000 in
theorem dB_rest_stop {w w1 : World} {g pr pa pn px : Nat} {v a rv : Value} {X A : Int} (hX : (X != 0) = true) (nx : px ≠ g)
    (hg1 : w1.heap[g]? = some (.cells #[v, a, .int .i64 X] 109 (0, 0))) (hr1 : w1.heap[pr]? = some (.cells #[.pointer (some ⟨g, 0, none⟩)] 105 (0, 0)))
    (ha1 : w1.heap[pa]? = some (.cells #[.int .i64 A] 3 (0, 0))) (hn1 : w1.heap[pn]? = some (.cells #[.slice none 0 0] 23 (0, 0))) (hx1 : w1.heap[px]? = some (.cells #[.slice none 0 0] 23 (0, 0)))
    (hm1 : Mu (· = g) w w1) :
    Code.wp Try.prog dB_rest (fun e a' w' => e = .normal ∧ a'.defers = [] ∧ w'.heap[g]? = some (.cells #[v, .int .i64 A, .int .i64 X] 109 (0, 0)) ∧ w'.heap[px]? = some (.cells #[.slice none 0 0] 23 (0, 0)) ∧ Mu (fun k => k = g ∨ k = px) w w')
      { tmps := #[.pointer (some ⟨pr, 0, none⟩), .pointer (some ⟨pa, 0, none⟩), .pointer (some ⟨pn, 0, none⟩), .pointer (some ⟨px, 0, none⟩), rv, .pointer (some ⟨g, 0, none⟩), .pointer (some ⟨g, 0, none⟩), .pointer (some ⟨g, 2, none⟩), .tuple #[], undef, undef, undef, undef, undef, undef, undef, undef, undef, undef], defers := [] } w1 := by
  have cr1 := blk_cell hr1 0
  have ca1 := blk_cell ha1 0
  have cn1 := blk_cell hn1 0
  have cg1 := blk_cell hg1 2
  have cg2 := blk_cell hg1 1
  have cx1 := blk_cell hx1 0
  have fg1 := blk_frozen hg1 1
  have fx1 := blk_frozen hx1 0
  have Hg1 := Aside0.mk hg1
  have Hx1 := Aside0.mk hx1
  have Hm1 := Aside0.mk hm1
  clear hg1 hm1 hr1 ha1 hn1 hx1
  unfold dB_rest Try.f76
  go_wp2
  refine ⟨?_, ?_, ?_⟩
  · rw [Below.heap_setCell _ _ _ _ (by exact fun e => nx e.symm)]
    exact set_at Hg1.out
  · exact set_0 ((Below.heap_setCell _ _ _ _ (by exact nx)).trans Hx1.out)
  · exact (((Mu.mono (Hm1.out) (fun k _ h => .inl h) : Mu (fun k => k = g ∨ k = px) w w1)).setCell (p := ⟨g, 1, none⟩) (fun _ => .inl rfl) _).setCell (p := ⟨px, 0, none⟩) (fun _ => .inr rfl) _
set_option maxHeartbeats 1000000 in
theorem dB_stop {w : World} {g pr pa pn px : Nat} {v a e : Value} {X A : Int} {older : List PanicEntry} (hX : (X != 0) = true) (nr : pr ≠ g) (na : pa ≠ g) (nn : pn ≠ g) (nx : px ≠ g)
    (hg : w.heap[g]? = some (.cells #[v, a, e] 109 (0, 0))) (hr : w.heap[pr]? = some (.cells #[.pointer (some ⟨g, 0, none⟩)] 105 (0, 0)))
    (ha : w.heap[pa]? = some (.cells #[.int .i64 A] 3 (0, 0))) (hn : w.heap[pn]? = some (.cells #[.slice none 0 0] 23 (0, 0))) (hx : w.heap[px]? = some (.cells #[.slice none 0 0] 23 (0, 0))) :
    CallsD Try.prog 76 #[.pointer (some ⟨pr, 0, none⟩), .pointer (some ⟨pa, 0, none⟩), .pointer (some ⟨pn, 0, none⟩), .pointer (some ⟨px, 0, none⟩)]
      (.panicking ({ v := .iface 113 (.agg #[.int .i64 X]), recovered := false } :: older)) w fun en u w' =>
      en = .returned (.tuple #[]) ∧ u = .panicking ({ v := .iface 113 (.agg #[.int .i64 X]), recovered := true } :: older) ∧
        w'.heap[g]? = some (.cells #[v, .int .i64 A, .int .i64 X] 109 (0, 0)) ∧ w'.heap[px]? = some (.cells #[.slice none 0 0] 23 (0, 0)) ∧ Mu (fun k => k = g ∨ k = px) w w' := by
  refine callsD_of_wpS Try.func76 rfl fun c₀ cs hu => ?_
  have cr := blk_cell hr 0
  apply wpS_seq
  refine wpS_region_draw (by kernel_rfl) (L := [[0, 1, 2, 3, 4], [1, 0, 2, 3, 4], [1, 2, 0, 3, 4], [1, 2, 3, 0, 4]]) (by kernel_rfl) ?_
  intro l hl
  simp only [List.mem_cons, List.not_mem_nil, or_false] at hl
  have hg' : w.drew.heap[g]? = some (.cells #[v, a, e] 109 (0, 0)) := hg
  have fin : ∀ (en : Exit) (a' : Act) (w' : World), (en = .normal ∧ a'.defers = [] ∧ w'.heap[g]? = some (.cells #[v, .int .i64 A, .int .i64 X] 109 (0, 0)) ∧ w'.heap[px]? = some (.cells #[.slice none 0 0] 23 (0, 0)) ∧ Mu (fun k => k = g ∨ k = px) w w') →
      bodyPostS Try.prog Try.f76 c₀ cs (fun en u w' => en = .returned (.tuple #[]) ∧ u = .panicking ({ v := .iface 113 (.agg #[.int .i64 X]), recovered := true } :: older) ∧
        w'.heap[g]? = some (.cells #[v, .int .i64 A, .int .i64 X] 109 (0, 0)) ∧ w'.heap[px]? = some (.cells #[.slice none 0 0] 23 (0, 0)) ∧ Mu (fun k => k = g ∨ k = px) w w') en a'
        ({ c₀ with mode := .panicking ({ v := .iface 113 (.agg #[.int .i64 X]), recovered := true } :: older) } :: cs) w' := by
    rintro en a' w' ⟨rfl, hd, h1, h2, h3⟩
    exact ⟨hd, _, rfl, .tuple #[], results_none rfl _ _ _, rfl, rfl, h1, h2, h3⟩
  rcases hl with rfl | rfl | rfl | rfl
  all_goals
    simp [wpOpsS, go_sem, recoverD, hu, Try.ntmps76, cr]
    refine (caught_stop hg').mono ?_
    rintro en w1 ⟨rfl, hg1, hm1⟩
    refine wpS_of_wp ?_
    refine wp_act (a' := { tmps := #[.pointer (some ⟨pr, 0, none⟩), .pointer (some ⟨pa, 0, none⟩), .pointer (some ⟨pn, 0, none⟩), .pointer (some ⟨px, 0, none⟩), .iface 113 (.agg #[.int .i64 X]), .pointer (some ⟨g, 0, none⟩), .pointer (some ⟨g, 0, none⟩), .pointer (some ⟨g, 2, none⟩), .tuple #[], undef, undef, undef, undef, undef, undef, undef, undef, undef, undef], defers := [] }) (by kernel_rfl) ?_
    refine wp_code (c' := dB_rest) (by kernel_rfl) ?_
    exact Code.wp_mono fin (dB_rest_stop hX nx hg1 (hm1.heap (show w.drew.heap[pr]? = _ from hr) nr) (hm1.heap (show w.drew.heap[pa]? = _ from ha) na) (hm1.heap (show w.drew.heap[pn]? = _ from hn) nn) (hm1.heap (show w.drew.heap[px]? = _ from hx) nx) (Mu.trans ((Mu.refl _ _).drew) hm1))
set_option maxHeartbeats 1000000 in
theorem dB_rest_idle {w1 : World} {g pr : Nat} {v a p1 p2 p3 rv : Value}
    (hg1 : w1.heap[g]? = some (.cells #[v, a, .int .i64 0] 109 (0, 0))) (hr1 : w1.heap[pr]? = some (.cells #[.pointer (some ⟨g, 0, none⟩)] 105 (0, 0))) :
    Code.wp Try.prog dB_rest (fun e a' w' => e = .normal ∧ a'.defers = [] ∧ w' = w1)
      { tmps := #[.pointer (some ⟨pr, 0, none⟩), p1, p2, p3, rv, .pointer (some ⟨g, 0, none⟩), .pointer (some ⟨g, 0, none⟩), .pointer (some ⟨g, 2, none⟩), .tuple #[], undef, undef, undef, undef, undef, undef, undef, undef, undef, undef], defers := [] } w1 := by
  have cr1 := blk_cell hr1 0
  have cg1 := blk_cell hg1 2
  clear hg1 hr1
  unfold dB_rest Try.f76
  go_wp2
set_option maxHeartbeats 1000000 in
theorem dB_idle {w : World} {g pr : Nat} {v a p1 p2 p3 : Value}
    (hg : w.heap[g]? = some (.cells #[v, a, .int .i64 0] 109 (0, 0))) (hr : w.heap[pr]? = some (.cells #[.pointer (some ⟨g, 0, none⟩)] 105 (0, 0))) :
    CallsD Try.prog 76 #[.pointer (some ⟨pr, 0, none⟩), p1, p2, p3] .returning w fun en u w' =>
      en = .returned (.tuple #[]) ∧ u = .returning ∧ w' = w.drew := by
  refine callsD_of_wpS Try.func76 rfl fun c₀ cs hu => ?_
  have cr := blk_cell hr 0
  apply wpS_seq
  refine wpS_region_draw (by kernel_rfl) (L := [[0, 1, 2, 3, 4], [1, 0, 2, 3, 4], [1, 2, 0, 3, 4], [1, 2, 3, 0, 4]]) (by kernel_rfl) ?_
  intro l hl
  simp only [List.mem_cons, List.not_mem_nil, or_false] at hl
  have fin : ∀ (en : Exit) (a' : Act) (w' : World), (en = .normal ∧ a'.defers = [] ∧ w' = w.drew) →
      bodyPostS Try.prog Try.f76 c₀ cs (fun en u w' => en = .returned (.tuple #[]) ∧ u = .returning ∧ w' = w.drew) en a' (c₀ :: cs) w' := by
    rintro en a' w' ⟨rfl, hd, rfl⟩
    exact ⟨hd, .returning, by rw [← hu], .tuple #[], results_none rfl _ _ _, rfl, rfl, rfl⟩
  rcases hl with rfl | rfl | rfl | rfl
  all_goals
    simp [wpOpsS, go_sem, recoverD, hu, Try.ntmps76, cr]
    refine caught_nil.mono ?_
    rintro en w1 ⟨rfl, rfl⟩
    refine wpS_of_wp ?_
    refine wp_act (a' := { tmps := #[.pointer (some ⟨pr, 0, none⟩), p1, p2, p3, .nilIface, .pointer (some ⟨g, 0, none⟩), .pointer (some ⟨g, 0, none⟩), .pointer (some ⟨g, 2, none⟩), .tuple #[], undef, undef, undef, undef, undef, undef, undef, undef, undef, undef], defers := [] }) (by kernel_rfl) ?_
    refine wp_code (c' := dB_rest) (by kernel_rfl) ?_
    exact Code.wp_mono fin (dB_rest_idle hg hr)
end Go.Proofs.Ytdklanenmihpdaa.Hand
namespace Go.Proofs.Ytdklanenmihpdaa.Hand
open Go.RowKit Go.Proofs.YtdklanenmihpdaaW.PrintWords Go.Proofs.YtdklanenmihpdaaW.PrintLast
def RdPost (Res : Nat → World → Value → Prop) (b : Nat) (F : Nat → Prop) (g : Nat) (l : List Int) (e : Int) (w : World) : Except Int Int → Ending → World → Prop
  | .ok at', en, w' => (∃ v, en = .returned v ∧ Res b w' v) ∧ IsRd w' F g l at' e ∧ 0 ≤ at' ∧ at' ≤ l.length ∧ Mu (· = g) w w'
  | .error x, en, w' => en = .panicked (stopV x) ∧ (∃ at', IsRd w' F g l at' e) ∧ Mu (· = g) w w'
def TrPost (Res : Nat → World → Value → Prop) (b : Nat) (F : Nat → Prop) (g : Nat) (l : List Int) (at_ e : Int) (zero : Value) (w : World) (R : Except Int Int) (en : Ending) (w' : World) : Prop :=
  Mu (· = g) w w' ∧ ((e ≠ 0 ∧ en = .returned zero ∧ IsRd w' F g l at_ e) ∨ (e = 0 ∧ ∃ at', R = .ok at' ∧ (∃ v, en = .returned v ∧ Res b w' v) ∧ IsRd w' F g l at' 0 ∧ 0 ≤ at' ∧ at' ≤ l.length) ∨
    (e = 0 ∧ ∃ x, R = .error x ∧ en = .returned zero ∧ IsRd w' F g l at_ x))
structure Stays (Res : Nat → World → Value → Prop) : Prop where
  mu : ∀ {b w1 w2 v}, Res b w1 v → Mu (fun k => k < b) w1 w2 → Res b w2 v
  lower : ∀ {b b' w v}, Res b w v → b' ≤ b → Res b' w v
theorem Mu.trans' {S T : Nat → Prop} {a b c : World} (h : Mu S a b) (k : Mu T b c) (hT : ∀ i, i < a.heap.size → T i → S i) : Mu S a c :=
  ⟨k.os.trans h.os, k.tape.trans h.tape, k.output.trans h.output, Nat.le_trans h.size k.size, fun i hi hs => (k.block i (Nat.lt_of_lt_of_le hi h.size) (fun ht => hs (hT i hi ht))).trans (h.block i hi hs)⟩
theorem alloc_new (w : World) (o : Obj) : (w.alloc o).heap[w.heap.size]? = some o := by
  show (w.heap.push o)[w.heap.size]? = some o
  simp
theorem alloc_old {w : World} {o O : Obj} {k : Nat} (h : w.heap[k]? = some o) : (w.alloc O).heap[k]? = some o := alloc_blk h
theorem four_new (w : World) (o0 o1 o2 o3 : Obj) : ∃ W, (((w.alloc o0).alloc o1).alloc o2).alloc o3 = W ∧ W.heap[w.heap.size]? = some o0 ∧ W.heap[w.heap.size + 1]? = some o1 ∧ W.heap[w.heap.size + 1 + 1]? = some o2 ∧ W.heap[w.heap.size + 1 + 1 + 1]? = some o3 ∧
    W.heap.size = w.heap.size + 4 ∧ Below w.heap.size w W := by
  have s1 : (w.alloc o0).heap.size = w.heap.size + 1 := by simp
  have s2 : ((w.alloc o0).alloc o1).heap.size = w.heap.size + 1 + 1 := by simp
  have s3 : (((w.alloc o0).alloc o1).alloc o2).heap.size = w.heap.size + 1 + 1 + 1 := by simp
  refine ⟨_, rfl, ?_, ?_, ?_, ?_, by simp, ?_⟩
  · exact alloc_old (alloc_old (alloc_old (alloc_new _ _)))
  · have := alloc_new (w.alloc o0) o1
    rw [s1] at this
    exact alloc_old (alloc_old this)
  · have := alloc_new ((w.alloc o0).alloc o1) o2
    rw [s2] at this
    exact alloc_old this
  · have := alloc_new (((w.alloc o0).alloc o1).alloc o2) o3
    rw [s3] at this
    exact this
  · exact below_alloc (below_alloc (below_alloc (below_alloc (Below.refl _ _) _) _) _) _
theorem IsRd.blk {w : World} {F : Nat → Prop} {g : Nat} {l : List Int} {at_ e : Int} (h : IsRd w F g l at_ e) : ∃ v, w.heap[g]? = some (.cells #[v, .int .i64 at_, .int .i64 e] 109 (0, 0)) := by
  obtain ⟨A, c, i1, i2, i3, i4, i5⟩ := h
  exact ⟨_, i2⟩
set_option maxHeartbeats 2000000 in
theorem triesdU {Res : Nat → World → Value → Prop} (hS : Stays Res) (hsh : ∀ b w v, Res b w v → ∃ n, v = .int .u64 n) {f : FuncId} {first cap args : Array Value} (hargs : first ++ cap = args)
    (hcf : ∀ w : World, (callFunc f args).run Try.prog w = .ok (.enter f args) w)
    {w : World} {F : Nat → Prop} {g : Nat} {l : List Int} {at_ e : Int} (R : Except Int Int) (hX : ∀ x, R = .error x → (x != 0) = true) (hI : IsRd w F g l at_ e) (hF : ∀ k, F k → k < w.heap.size)
    (hread : e = 0 → ∀ w1, Below w.heap.size w w1 → Calls Try.prog f args w1 (RdPost Res w1.heap.size F g l 0 w1 R)) :
    Calls Try.prog 66 #[.pointer (some ⟨g, 0, none⟩), .func (.func f) first cap] w (TrPost Res w.heap.size F g l at_ e (.int .u64 0) w R) := by
  have HI := Aside0.mk hI
  have HX := Aside0.mk hX
  have HF := Aside0.mk hF
  have HR := Aside0.mk hread
  have HS := Aside0.mk hS
  have Hsh := Aside0.mk hsh
  obtain ⟨A, c, i1, i2, i3, i4, i5⟩ := hI
  have I2 := Aside0.mk i2
  have c1 := blk_cell i2 1
  have c2 := blk_cell i2 2
  have hglt := heap_lt i2
  have hsz0 : w.heap.size ≠ g := by omega
  have hsz1 : w.heap.size + 1 ≠ g := by omega
  have hsz2 : w.heap.size + 1 + 1 ≠ g := by omega
  have hsz3 : w.heap.size + 1 + 1 + 1 ≠ g := by omega
  clear hX hF hread hS hsh i1 i2 i3 i4 i5
  have hmf : ∀ (fn : Fn) (first cap : Array Value) (w : World), (Instr.makeFunc fn first cap).run Try.prog w = .ok (.func fn first cap) w := fun _ _ _ _ => rfl
  by_cases he : e = 0
  · subst he
    obtain ⟨W, hW, b0, b1, b2, b3, hWs, hWb⟩ := four_new w (.cells #[.pointer (some ⟨g, 0, none⟩)] 105) (.cells #[.int .u64 0] 22) (.cells #[.int .i64 at_] 3) (.cells #[.int .u64 0] 22)
    have HW := Aside0.mk hW
    have B0 := Aside0.mk b0
    have B1 := Aside0.mk b1
    have B2 := Aside0.mk b2
    have B3 := Aside0.mk b3
    have HWs := Aside0.mk hWs
    have HWb := Aside0.mk hWb
    clear hW b0 b1 b2 b3 hWs hWb
    go_enter_defers Try.func66, Try.ntmps66
    go_wp2_with fail
    rw [HW.out]
    refine (HR.out trivial W HWb.out).mono ?_
    have hIW : IsRd W F g l at_ 0 := HI.out.mu (Mu.of_below HWb.out (fun _ => False)) (fun _ _ h => h)
    cases R with
    | ok p =>
      rintro en w2 ⟨⟨v, rfl, hres⟩, hI2, h0, h1, hm⟩
      obtain ⟨n, rfl⟩ := Hsh.out _ _ _ hres
      have b1 := hm.heap B1.out hsz1
      have b0 := hm.heap B0.out hsz0
      have c3 := blk_cell b1 0
      have f3 := blk_frozen b1 0
      have HM := Aside0.mk hm
      have HI2 := Aside0.mk hI2
      have HRes := Aside0.mk hres
      have B1' := Aside0.mk b1
      have B0' := Aside0.mk b0
      clear hm hI2 hres b1 b0
      go_wp2
      obtain ⟨v2, hb2⟩ := HI2.out.blk
      refine leaves_cons (f := 73) (args := #[.pointer (some ⟨w.heap.size, 0, none⟩), .pointer (some ⟨w.heap.size + 1 + 1, 0, none⟩), .pointer (some ⟨w.heap.size + 1 + 1 + 1, 0, none⟩), .pointer (some ⟨w.heap.size + 1, 0, none⟩)]) (by simp) (by simp [go_sem]) ?_
      refine (dU_idle (g := g) (v := v2) (a := .int .i64 p) ?_ ?_).mono ?_
      · exact (Below.heap_setCell _ _ _ _ (by exact fun e => hsz1 e.symm)).trans hb2
      · exact (Below.heap_setCell _ _ _ _ (by show w.heap.size ≠ w.heap.size + 1; omega)).trans B0'.out
      rintro en u w3 ⟨rfl, rfl, rfl⟩
      have hx := set_0 (x := .int .u64 n) B1'.out
      have cx := blk_cell hx 0
      have hm3 : ∀ S : Nat → Prop, S (w.heap.size + 1) → Mu S w2 ((w2.setCell ⟨w.heap.size + 1, 0, none⟩ (.int .u64 n)).drew) := fun S hS => ((Mu.refl S w2).setCell (p := ⟨w.heap.size + 1, 0, none⟩) (fun _ => hS) _).drew
      refine ⟨.int .u64 n, ?_, ?_, .inr (.inl ⟨rfl, p, rfl, ⟨_, rfl, ?_⟩, ?_, h0, h1⟩)⟩
      · simp [results, Try.results66, go_sem, cx]
      · exact (((Mu.of_below HWb.out (· = g)).trans HM.out).setCell (p := ⟨w.heap.size + 1, 0, none⟩) (fun h => absurd h (by show ¬ w.heap.size + 1 < w.heap.size; omega)) _).drew
      · exact HS.out.lower (HS.out.mu HRes.out (hm3 _ (by rw [HWs.out]; omega))) (by rw [HWs.out]; omega)
      · exact HI2.out.mu (hm3 (· = w.heap.size + 1) rfl) (fun k hk e => by have := HF.out k hk; omega)
    | error x =>
      rintro en w2 ⟨rfl, ⟨at', hI2⟩, hm⟩
      obtain ⟨v2, hb2⟩ := hI2.blk
      have hX := HX.out x rfl
      have hd := dU_stop (older := []) hX hsz0 hsz2 hsz3 hsz1 hb2 (hm.heap B0.out hsz0) (hm.heap B2.out hsz2) (hm.heap B3.out hsz3) (hm.heap B1.out hsz1)
      refine leaves_cons (f := 73) (args := #[.pointer (some ⟨w.heap.size, 0, none⟩), .pointer (some ⟨w.heap.size + 1 + 1, 0, none⟩), .pointer (some ⟨w.heap.size + 1 + 1 + 1, 0, none⟩), .pointer (some ⟨w.heap.size + 1, 0, none⟩)]) (by simp) (by simp [go_sem]) ?_
      refine hd.mono ?_
      rintro en u w3 ⟨rfl, rfl, g1, x1, m1⟩
      have cx := blk_cell x1 0
      refine ⟨.int .u64 0, ?_, ?_, .inr (.inr ⟨rfl, x, rfl, rfl, ?_⟩)⟩
      · simp [results, Try.results66, go_sem, cx]
      · refine ((Mu.of_below HWb.out (· = g)).trans hm).trans' m1 ?_
        rintro k hk (h | h)
        · exact h
        · omega
      · obtain ⟨A', c', j1, j2, j3, j4, j5⟩ := hI2
        rw [hb2] at j2
        obtain rfl : v2 = .slice A' l.length c' := by
          injection j2 with j2
          injection j2 with j2
          simpa using j2
        exact ⟨A', c', j1, g1, j3, C_mu m1 j4 (fun ad ea hn => by
          rintro (h | h)
          · exact (j5 ad ea hn).2 h
          · have := HF.out _ (j5 ad ea hn).1; omega), j5⟩
  · have he' : (e != 0) = true := by rw [bne_iff_ne]; exact he
    have He := Aside0.mk he
    clear he
    go_enter_defers Try.func66, Try.ntmps66
    go_wp2_with fail
    refine ⟨.int .u64 0, ?_, ?_⟩
    · simp [results, Try.results66, go_sem]
    · have hb : Below w.heap.size w ((w.alloc (Obj.cells #[Value.pointer (some ⟨g, 0, none⟩)] 105)).alloc (Obj.cells #[Value.int .u64 0] 22)) := below_alloc (below_alloc (Below.refl _ _) _) _
      exact ⟨Mu.of_below hb _, .inl ⟨He.out, rfl, HI.out.mu (Mu.of_below hb (fun _ => False)) (fun _ _ h => h)⟩⟩
set_option maxHeartbeats 2000000 in
theorem triesdB {Res : Nat → World → Value → Prop} (hS : Stays Res) (hsh : ∀ b w v, Res b w v → ∃ a n c, v = .slice a n c) {f : FuncId} {first cap args : Array Value} (hargs : first ++ cap = args)
    (hcf : ∀ w : World, (callFunc f args).run Try.prog w = .ok (.enter f args) w)
    {w : World} {F : Nat → Prop} {g : Nat} {l : List Int} {at_ e : Int} (R : Except Int Int) (hX : ∀ x, R = .error x → (x != 0) = true) (hI : IsRd w F g l at_ e) (hF : ∀ k, F k → k < w.heap.size)
    (hread : e = 0 → ∀ w1, Below w.heap.size w w1 → Calls Try.prog f args w1 (RdPost Res w1.heap.size F g l 0 w1 R)) :
    Calls Try.prog 70 #[.pointer (some ⟨g, 0, none⟩), .func (.func f) first cap] w (TrPost Res w.heap.size F g l at_ e (.slice none 0 0) w R) := by
  have HI := Aside0.mk hI
  have HX := Aside0.mk hX
  have HF := Aside0.mk hF
  have HR := Aside0.mk hread
  have HS := Aside0.mk hS
  have Hsh := Aside0.mk hsh
  obtain ⟨A, c, i1, i2, i3, i4, i5⟩ := hI
  have I2 := Aside0.mk i2
  have c1 := blk_cell i2 1
  have c2 := blk_cell i2 2
  have hglt := heap_lt i2
  have hsz0 : w.heap.size ≠ g := by omega
  have hsz1 : w.heap.size + 1 ≠ g := by omega
  have hsz2 : w.heap.size + 1 + 1 ≠ g := by omega
  have hsz3 : w.heap.size + 1 + 1 + 1 ≠ g := by omega
  clear hX hF hread hS hsh i1 i2 i3 i4 i5
  have hmf : ∀ (fn : Fn) (first cap : Array Value) (w : World), (Instr.makeFunc fn first cap).run Try.prog w = .ok (.func fn first cap) w := fun _ _ _ _ => rfl
  by_cases he : e = 0
  · subst he
    obtain ⟨W, hW, b0, b1, b2, b3, hWs, hWb⟩ := four_new w (.cells #[.pointer (some ⟨g, 0, none⟩)] 105) (.cells #[.slice none 0 0] 23) (.cells #[.int .i64 at_] 3) (.cells #[.slice none 0 0] 23)
    have HW := Aside0.mk hW
    have B0 := Aside0.mk b0
    have B1 := Aside0.mk b1
    have B2 := Aside0.mk b2
    have B3 := Aside0.mk b3
    have HWs := Aside0.mk hWs
    have HWb := Aside0.mk hWb
    clear hW b0 b1 b2 b3 hWs hWb
    go_enter_defers Try.func70, Try.ntmps70
    go_wp2_with fail
    rw [HW.out]
    refine (HR.out trivial W HWb.out).mono ?_
    have hIW : IsRd W F g l at_ 0 := HI.out.mu (Mu.of_below HWb.out (fun _ => False)) (fun _ _ h => h)
    cases R with
    | ok p =>
      rintro en w2 ⟨⟨v, rfl, hres⟩, hI2, h0, h1, hm⟩
      obtain ⟨sa, sn, sc, rfl⟩ := Hsh.out _ _ _ hres
      have b1 := hm.heap B1.out hsz1
      have b0 := hm.heap B0.out hsz0
      have c3 := blk_cell b1 0
      have f3 := blk_frozen b1 0
      have HM := Aside0.mk hm
      have HI2 := Aside0.mk hI2
      have HRes := Aside0.mk hres
      have B1' := Aside0.mk b1
      have B0' := Aside0.mk b0
      clear hm hI2 hres b1 b0
      go_wp2
      obtain ⟨v2, hb2⟩ := HI2.out.blk
      refine leaves_cons (f := 76) (args := #[.pointer (some ⟨w.heap.size, 0, none⟩), .pointer (some ⟨w.heap.size + 1 + 1, 0, none⟩), .pointer (some ⟨w.heap.size + 1 + 1 + 1, 0, none⟩), .pointer (some ⟨w.heap.size + 1, 0, none⟩)]) (by simp) (by simp [go_sem]) ?_
      refine (dB_idle (g := g) (v := v2) (a := .int .i64 p) ?_ ?_).mono ?_
      · exact (Below.heap_setCell _ _ _ _ (by exact fun e => hsz1 e.symm)).trans hb2
      · exact (Below.heap_setCell _ _ _ _ (by show w.heap.size ≠ w.heap.size + 1; omega)).trans B0'.out
      rintro en u w3 ⟨rfl, rfl, rfl⟩
      have hx := set_0 (x := .slice sa sn sc) B1'.out
      have cx := blk_cell hx 0
      have hm3 : ∀ S : Nat → Prop, S (w.heap.size + 1) → Mu S w2 ((w2.setCell ⟨w.heap.size + 1, 0, none⟩ (.slice sa sn sc)).drew) := fun S hS => ((Mu.refl S w2).setCell (p := ⟨w.heap.size + 1, 0, none⟩) (fun _ => hS) _).drew
      refine ⟨.slice sa sn sc, ?_, ?_, .inr (.inl ⟨rfl, p, rfl, ⟨_, rfl, ?_⟩, ?_, h0, h1⟩)⟩
      · simp [results, Try.results70, go_sem, cx]
      · exact (((Mu.of_below HWb.out (· = g)).trans HM.out).setCell (p := ⟨w.heap.size + 1, 0, none⟩) (fun h => absurd h (by show ¬ w.heap.size + 1 < w.heap.size; omega)) _).drew
      · exact HS.out.lower (HS.out.mu HRes.out (hm3 _ (by rw [HWs.out]; omega))) (by rw [HWs.out]; omega)
      · exact HI2.out.mu (hm3 (· = w.heap.size + 1) rfl) (fun k hk e => by have := HF.out k hk; omega)
    | error x =>
      rintro en w2 ⟨rfl, ⟨at', hI2⟩, hm⟩
      obtain ⟨v2, hb2⟩ := hI2.blk
      have hX := HX.out x rfl
      have hd := dB_stop (older := []) hX hsz0 hsz2 hsz3 hsz1 hb2 (hm.heap B0.out hsz0) (hm.heap B2.out hsz2) (hm.heap B3.out hsz3) (hm.heap B1.out hsz1)
      refine leaves_cons (f := 76) (args := #[.pointer (some ⟨w.heap.size, 0, none⟩), .pointer (some ⟨w.heap.size + 1 + 1, 0, none⟩), .pointer (some ⟨w.heap.size + 1 + 1 + 1, 0, none⟩), .pointer (some ⟨w.heap.size + 1, 0, none⟩)]) (by simp) (by simp [go_sem]) ?_
      refine hd.mono ?_
      rintro en u w3 ⟨rfl, rfl, g1, x1, m1⟩
      have cx := blk_cell x1 0
      refine ⟨.slice none 0 0, ?_, ?_, .inr (.inr ⟨rfl, x, rfl, rfl, ?_⟩)⟩
      · simp [results, Try.results70, go_sem, cx]
      · refine ((Mu.of_below HWb.out (· = g)).trans hm).trans' m1 ?_
        rintro k hk (h | h)
        · exact h
        · omega
      · obtain ⟨A', c', j1, j2, j3, j4, j5⟩ := hI2
        rw [hb2] at j2
        obtain rfl : v2 = .slice A' l.length c' := by
          injection j2 with j2
          injection j2 with j2
          simpa using j2
        exact ⟨A', c', j1, g1, j3, C_mu m1 j4 (fun ad ea hn => by
          rintro (h | h)
          · exact (j5 ad ea hn).2 h
          · have := HF.out _ (j5 ad ea hn).1; omega), j5⟩
  · have he' : (e != 0) = true := by rw [bne_iff_ne]; exact he
    have He := Aside0.mk he
    clear he
    go_enter_defers Try.func70, Try.ntmps70
    go_wp2_with fail
    refine ⟨.slice none 0 0, ?_, ?_⟩
    · simp [results, Try.results70, go_sem]
    · have hb : Below w.heap.size w ((w.alloc (Obj.cells #[Value.pointer (some ⟨g, 0, none⟩)] 105)).alloc (Obj.cells #[Value.slice none 0 0] 23)) := below_alloc (below_alloc (Below.refl _ _) _) _
      exact ⟨Mu.of_below hb _, .inl ⟨He.out, rfl, HI.out.mu (Mu.of_below hb (fun _ => False)) (fun _ _ h => h)⟩⟩
end Go.Proofs.Ytdklanenmihpdaa.Hand
namespace Go.Proofs.Ytdklanenmihpdaa.Hand
set_option maxRecDepth 100000
open Go.RowKit Go.Proofs.YtdklanenmihpdaaW.PrintWords Go.Proofs.YtdklanenmihpdaaW.PrintLast
theorem info5 : (Try.prog.info? 5).map (fun i => (i.zero, i.size, i.bytes)) = some (some (.int .u8 0), 1, 1) := by kernel_rfl
def upL (l : List Int) (at_ most : Int) : Except Int (Int × Int) :=
  match numL l 10 0 0 at_ with
  | .ok (n, p) => if n > most then .error 1 else .ok (n, p)
  | .error x => .error x
set_option maxHeartbeats 1000000 in
theorem upTo_any {w : World} {F : Nat → Prop} {g : Nat} {l : List Int} {at_ e most : Int} (hI : IsRd w F g l at_ e) (h0 : 0 ≤ at_) (h1 : at_ ≤ l.length) :
    Calls Try.prog 69 #[.pointer (some ⟨g, 0, none⟩), .int .u64 most] w (NumPost F g l e w (Value.int .u64) (upL l at_ most)) := by
  obtain ⟨R, hR⟩ : ∃ R, numL l 10 0 0 at_ = R := ⟨_, rfl⟩
  obtain ⟨U, hU⟩ : ∃ U, upL l at_ most = U := ⟨_, rfl⟩
  rw [hU]
  have HU := Aside0.mk hU
  have hn := num_as hR hI h0 h1
  have HN := Aside0.mk hn
  clear hn hU
  go_enter Try.func69, Try.ntmps69
  go_wp2_with fail
  refine HN.out.mono ?_
  have HR := Aside0.mk hR
  clear hR HN
  cases R with
  | error x =>
    rintro en w1 ⟨rfl, hI1, hm1⟩
    have : U = .error x := by rw [← HU.out]; unfold upL; rw [HR.out]
    subst this
    exact ⟨rfl, rfl, hI1, hm1⟩
  | ok np =>
    obtain ⟨n, p⟩ := np
    rintro en w1 ⟨rfl, hI1, hp1, hp0, hm1⟩
    have HP := Aside0.mk (And.intro hI1 (And.intro hp1 (And.intro hp0 hm1)))
    have hI1' := Aside0.mk hI1
    clear hI1 hm1 hI
    by_cases hgt : most < n
    · have hu : U = .error 1 := by rw [← HU.out]; unfold upL; rw [HR.out]; exact if_pos hgt
      have Hu := Aside0.mk hu
      clear hu
      go_wp2
      refine ⟨rfl, ?_⟩
      rw [Hu.out]
      exact ⟨rfl, ⟨_, HP.out.1⟩, HP.out.2.2.2⟩
    · have hu : U = .ok (n, p) := by rw [← HU.out]; unfold upL; rw [HR.out]; exact if_neg hgt
      have Hu := Aside0.mk hu
      clear hu
      go_wp2
      go_ret
      rw [Hu.out]
      exact ⟨rfl, HP.out⟩
set_option maxHeartbeats 1000000 in
theorem left_any {w : World} {F : Nat → Prop} {g : Nat} {l : List Int} {at_ e : Int} (hI : IsRd w F g l at_ e) (h0 : 0 ≤ at_) (h1 : at_ ≤ l.length) :
    Calls Try.prog 65 #[.pointer (some ⟨g, 0, none⟩)] w fun en w' => en = .returned (.int .i64 (l.length - at_)) ∧ ∃ n, w' = w.drewN n := by
  have hlen := hI.len
  obtain ⟨A, c, i1, i2, i3, i4, i5⟩ := hI
  have c0 := blk_cell i2 0
  have c1 := blk_cell i2 1
  clear i1 i2 i4 i5
  go_enter Try.func65, Try.ntmps65
  go_wp2
  go_quiet (fail)
  go_wp2
  go_ret
  exact ⟨rfl, _, rfl⟩
set_option maxHeartbeats 1000000 in
theorem err_any {w : World} {F : Nat → Prop} {g : Nat} {l : List Int} {at_ e : Int} (hI : IsRd w F g l at_ e) :
    Calls Try.prog 63 #[.pointer (some ⟨g, 0, none⟩)] w fun en w' => en = .returned (.int .i64 e) ∧ ∃ n, w' = w.drewN n := by
  obtain ⟨A, c, i1, i2, i3, i4, i5⟩ := hI
  have c2 := blk_cell i2 2
  clear i1 i2 i4 i5
  go_enter Try.func63, Try.ntmps63
  go_wp2
  go_ret
  exact ⟨rfl, 0, rfl⟩
def copyOf (l : List Int) (w : World) (en : Ending) (w' : World) : Prop := ∃ v, en = .returned v ∧ Kd.R (Kd.int .u8) 5 w' w.heap.size (fun _ => True) v l ∧ Below w.heap.size w w'
set_option maxHeartbeats 1000000 in
theorem clone_any {w : World} {A : Option Addr} {c : Nat} {l : List Int} (hC : Kd.C (Kd.int .u8) w A l.length l) (hc : l.length ≤ c) (hl : l.length < 140737488355328) :
    Calls Try.prog 43 #[.slice A l.length c] w (copyOf l w) := by
  have HC := Aside0.mk hC
  clear hC
  have HB := Aside0.mk (Below.refl w.heap.size w)
  cases A with
  | none =>
    obtain rfl : l = [] := by
      cases l with
      | nil => rfl
      | cons x l =>
        obtain ⟨ad, e, _⟩ := HC.out.2.2 (by simp)
        cases e
    have hq : ∀ w : World, (binOp .eql 23 (.slice none 0 c) (.slice none 0 0)).run Try.prog w = .ok (.bool true) w := fun w => Lib.run_eql_slice_nil w 23 5 none 0 c 0 0 Try.underlying23
    show Calls Try.prog 43 #[.slice none 0 c] w (copyOf [] w)
    go_enter Try.func43, Try.ntmps43
    go_wp2
    go_ret
    exact ⟨_, rfl, Kd.R_nil _ _ _ _ _, Below.refl _ _⟩
  | some ad =>
    have hq : ∀ w : World, (binOp .eql 23 (.slice (some ad) l.length c) (.slice none 0 0)).run Try.prog w = .ok (.bool false) w := fun w => Lib.run_eql_slice_nil w 23 5 (some ad) l.length c 0 0 Try.underlying23
    have HL := Aside0.mk hl
    clear hl
    go_enter Try.func43, Try.ntmps43
    go_wp2_with (first
      | ((with_reducible refine gate_dst (N := 5) rfl ?_); refine Kd.R_lit (Kd.int .u8) w.heap.size 5 ?hg (N := 5) ?hd (xs := ([] : List Int)) (inner := []) (ok := fun _ => True) (okp := fun _ => True) ?hr ?hp (fun _ hk => hk) trivial (Below.refl _ _) (Nat.le_refl _) (by simp) ?_; (case hd => rfl); (case hg => rfl); (case hr => first | (go_simp; done) | (go_simp; rfl)); (case hp => exact (Reps.none _ _)); intro v1 w1 ho hb hg_ hnew_; clear hg_ hnew_; have HO1 := Aside0.mk ho; have HB1 := Aside0.mk hb; clear ho hb HB)
      | ((with_reducible refine gate_builtin (b := .append) (xs := #[.tmp 5, .tmp 6]) rfl ?_); at_builtin; refine Kd.R_append_rows (Kd.int .u8) (w0 := w) w.heap.size rfl (.tmp 5) (.tmp 6) 23 5 (.int .u8 0) 1 rfl Try.underlying23 info5 rfl (by decide) (by omega) v1 [] l _ _ _ (fun _ => True) (fun _ => False) rfl rfl HO1.out (Kd.C_below HC.out HB1.out) (fun _ _ h => h) (fun _ h => h.elim) (fun _ _ => trivial) HB1.out HB1.out.size (by have := HL.out; simp; omega) ?_; intro v2 w2 ho hb hg hat; have HO2 := Aside0.mk ho; have HB2 := Aside0.mk hb; clear ho hb hg hat HO1 HB1))
    go_ret
    exact ⟨_, rfl, HO2.out, HB2.out⟩
def BytesV (l : List Int) (b : Nat) (w : World) (v : Value) : Prop := Kd.R (Kd.int .u8) 5 w b (fun _ => True) v l
theorem bytesV_stays (l : List Int) : Stays (BytesV l) where
  mu := fun {b w1 w2 v} h hm => by
    have h2 := Kd.R_bound h
    exact Kd.R_mono (Kd.R_move h2 (fun k hk => hm.block k hk.2.2.1 (by have := hk.2.1; omega))) (fun _ _ => trivial)
  lower := fun h hb => Kd.R_lower h hb
def rawL (l : List Int) (at_ n : Int) : Except Int Int := if n > l.length - at_ then .error 3 else .ok (at_ + n)
set_option maxHeartbeats 2000000 in
theorem raw_any {w : World} {F : Nat → Prop} {g : Nat} {l : List Int} {at_ e n : Int} (hI : IsRd w F g l at_ e) (h0 : 0 ≤ at_) (h1 : at_ ≤ l.length) (hn : 0 ≤ n) (hl : l.length < 140737488355328) (hF : ∀ k, F k → k < w.heap.size) :
    Calls Try.prog 72 #[.pointer (some ⟨g, 0, none⟩), .int .u64 n] w (RdPost (BytesV ((l.drop at_.toNat).take n.toNat)) w.heap.size F g l e w (rawL l at_ n)) := by
  have HI := Aside0.mk hI
  have HF := Aside0.mk hF
  clear hF
  by_cases hlt : n > l.length - at_
  · have hr : rawL l at_ n = .error 3 := if_pos hlt
    rw [hr]
    clear hr
    have hlt' : (l.length : Int) - at_ < n := hlt
    clear hlt
    have hw : IntKind.u64.wrap ((l.length : Int) - at_) = l.length - at_ := IntWalk.u64_in _ (by omega)
    go_enter Try.func72, Try.ntmps72
    go_wp2_with (first | (go_at_call 65; refine (left_any HI.out h0 h1).mono ?_; rintro en w' ⟨rfl, n', rfl⟩))
    exact ⟨rfl, rfl, ⟨_, HI.out.put ((Mu.refl _ _).drewN _) (fun v hv => hv)⟩, (Mu.refl _ _).drewN _⟩
  · have hr : rawL l at_ n = .ok (at_ + n) := if_neg hlt
    rw [hr]
    clear hr
    have hlt' : n ≤ (l.length : Int) - at_ := by omega
    clear hlt
    have hlen := hI.len
    have hw : IntKind.u64.wrap ((l.length : Int) - at_) = l.length - at_ := IntWalk.u64_in _ (by omega)
    have hw2 : IntKind.i64.wrap n = n := IntWalk.i64_in _ (by omega)
    obtain ⟨A, c, i1, i2, i3, i4, i5⟩ := hI
    have I2 := Aside0.mk i2
    have c0 := blk_cell i2 0
    have c1 := blk_cell i2 1
    have fz := blk_frozen i2 1
    have I4 := Aside0.mk i4
    have I5 := Aside0.mk i5
    clear i1 i2 i4 i5
    go_enter Try.func72, Try.ntmps72
    go_wp2_with (first | (go_at_call 65; refine (left_any HI.out h0 h1).mono ?_; rintro en w' ⟨rfl, n', rfl⟩))
    obtain ⟨W1, hW1⟩ : ∃ W1, (w.drewN n').setCell ⟨g, 1, none⟩ (.int .i64 (at_ + n)) = W1 := ⟨_, rfl⟩
    rw [hW1]
    have J2 : W1.heap[g]? = some (.cells #[.slice A l.length c, .int .i64 (at_ + n), .int .i64 e] 109 (0, 0)) := by rw [← hW1]; exact set_at I2.out
    have hm : Mu (· = g) w W1 := by rw [← hW1]; exact ((Mu.refl (· = g) w).drewN _).setCell (p := ⟨g, 1, none⟩) (fun _ => rfl) _
    have J4 := Aside0.mk (C_mu hm I4.out (fun ad ea hn => (I5.out ad ea hn).2))
    have HM := Aside0.mk hm
    have d0 := blk_cell J2 0
    have d1 := blk_cell J2 1
    have JJ := Aside0.mk J2
    clear hW1 c0 c1 fz J2 hm hw
    obtain ⟨i0, hi, _, hz1, _⟩ := info_parts info5
    obtain ⟨A', hA'⟩ : ∃ A', (if c = at_.toNat then A else A.map (·.add (at_.toNat * 1))) = A' := ⟨_, rfl⟩
    have hcut : ∀ W : World, (Instr.slice 23 (.slice A l.length c) (some (.int .i64 at_)) (some (.int .i64 (at_ + n))) none).run Try.prog W = .ok (.slice A' n.toNat (c - at_.toNat)) W := by
      intro W
      rw [cut_mid (P := Try.prog) 23 5 .i64 .i64 Try.underlying23 hi 1 hz1 A l.length c at_ (at_ + n) h0 (by omega) (by omega) i3 W, hA', show (at_ + n).toNat - at_.toNat = n.toNat by omega]
    obtain ⟨l', hl'⟩ : ∃ l', (l.drop at_.toNat).take n.toNat = l' := ⟨_, rfl⟩
    have hll : l'.length = n.toNat := by rw [← hl', List.length_take, List.length_drop]; omega
    have hC' : Kd.C (Kd.int .u8) W1 A' l'.length l' := by
      have := Kd.C_mid (lo := at_.toNat) (hi := (at_ + n).toNat) J4.out (by omega) (by omega) i3
      rw [List.drop_take, show (at_ + n).toNat - at_.toNat = n.toNat by omega, hl'] at this
      rw [← hA']
      exact this
    have hclone := clone_any (c := c - at_.toNat) (Kd.C_drew hC') (by have := i3; omega) (by omega)
    rw [hll] at hclone
    have HC := Aside0.mk hclone
    have HLL := Aside0.mk hl'
    clear hclone hC' hll hl' hA' hi hz1 i3
    have hw3 : IntKind.i64.wrap at_ = at_ := IntWalk.i64_in _ (by omega)
    go_still_tail 16, (by kernel_rfl)
    change wpList _ _ _ _ _ W1.drew
    go_wp2_with fail
    refine HC.out.mono ?_
    rintro en w2 ⟨v, rfl, hr, hb⟩
    go_wp2_with fail
    go_ret
    have h2 : Mu (· = g) w w2 := (HM.out.drew).trans (Mu.of_below hb _)
    refine ⟨⟨v, rfl, by rw [HLL.out]; exact Kd.R_lower hr HM.out.size⟩, ?_, by omega, by omega, h2⟩
    refine HI.out.put h2 (fun v2 hv => ?_)
    rw [I2.out] at hv
    obtain rfl : Value.slice A l.length c = v2 := by
      injection hv with hv
      injection hv with hv
      simpa using hv
    exact (Mu.of_below hb (fun _ => False)).heap (show W1.drew.heap[g]? = _ from JJ.out) (fun h => h)
end Go.Proofs.Ytdklanenmihpdaa.Hand
namespace Go.Proofs.Ytdklanenmihpdaa.Hand
set_option maxRecDepth 100000
open Go.RowKit Go.Proofs.YtdklanenmihpdaaW.PrintWords Go.Proofs.YtdklanenmihpdaaW.PrintLast
theorem numL_nz (l : List Int) : ∀ (k i : Nat) (n p : Int) (x : Int), numL l k i n p = .error x → (x != 0) = true
  | 0, i, n, p, x, h => by
    simp only [numL] at h
    injection h with h
    subst h
    rfl
  | k + 1, i, n, p, x, h => by
    simp only [numL] at h
    split at h
    · injection h with h; subst h; rfl
    · split at h
      · injection h with h; subst h; rfl
      · split at h
        · cases h
        · exact numL_nz l k _ _ _ x h
theorem upL_nz (l : List Int) (p m : Int) (x : Int) (h : upL l p m = .error x) : (x != 0) = true := by
  unfold upL at h
  split at h
  · split at h
    · injection h with h; subst h; rfl
    · cases h
  · next y e => injection h with h; subst h; exact numL_nz l _ _ _ _ _ e
def NumV (n : Int) (_ : Nat) (_ : World) (v : Value) : Prop := v = .int .u64 n
theorem numV_stays (n : Int) : Stays (NumV n) where
  mu := fun h _ => h
  lower := fun h _ => h
def posOf : Except Int (Int × Int) → Except Int Int
  | .ok (_, p) => .ok p
  | .error x => .error x
def valOf : Except Int (Int × Int) → Int
  | .ok (n, _) => n
  | .error _ => 0
theorem rd_of_num {F : Nat → Prop} {g : Nat} {l : List Int} {e : Int} {w : World} {R : Except Int (Int × Int)} {b : Nat} {en : Ending} {w' : World} (h : NumPost F g l e w (Value.int .u64) R en w') :
    RdPost (NumV (valOf R)) b F g l e w (posOf R) en w' := by
  cases R with
  | error x => exact h
  | ok np =>
    obtain ⟨h1, h2, h3, h4, h5⟩ := h
    exact ⟨⟨_, h1, rfl⟩, h2, h4, h3, h5⟩
theorem posOf_nz {R : Except Int (Int × Int)} (h : ∀ x, R = .error x → (x != 0) = true) : ∀ x, posOf R = .error x → (x != 0) = true := by
  intro x hx
  cases R with
  | error y => exact h x (by simpa [posOf] using hx)
  | ok np => cases hx
def numOut : Except Int (Int × Int) → Int × Int × Int
  | .ok (n, p) => (n, p, 0)
  | .error x => (0, 0, x)
def getV (l : List Int) (at_ : Int) : Int × Int × Int := if at_ < 0 then (0, 0, 1) else if l.length < at_ then (0, 0, 1) else numOut (numL l 10 0 0 at_)
def wire_Get.f (l0 : List Int) (a1 : Int) : Option (Int × Int × Int) := some (getV l0 a1)
theorem two_new (w : World) (o0 o1 : Obj) : ∃ W, (w.alloc o0).alloc o1 = W ∧ W.heap[w.heap.size]? = some o0 ∧ W.heap[w.heap.size + 1]? = some o1 ∧ W.heap.size = w.heap.size + 2 ∧ Below w.heap.size w W := by
  have s1 : (w.alloc o0).heap.size = w.heap.size + 1 := by simp
  refine ⟨_, rfl, alloc_old (alloc_new _ _), ?_, by simp, below_alloc (below_alloc (Below.refl _ _) _) _⟩
  have := alloc_new (w.alloc o0) o1
  rw [s1] at this
  exact this
def rdNum (l : List Int) (at_ e most : Int) : Int × Int × Int := if e ≠ 0 then (0, at_, e) else match upL l at_ most with
  | .ok (n, p) => (n, p, 0)
  | .error x => (0, at_, x)
def RdOut (enc : Int → Value) (F : Nat → Prop) (g : Nat) (l : List Int) (w : World) (r : Int × Int × Int) (en : Ending) (w' : World) : Prop :=
  en = .returned (enc r.1) ∧ IsRd w' F g l r.2.1 r.2.2 ∧ 0 ≤ r.2.1 ∧ r.2.1 ≤ l.length ∧ Mu (· = g) w w'
set_option maxHeartbeats 1000000 in
theorem num1_any {w : World} {F : Nat → Prop} {g pr pm : Nat} {l : List Int} {at_ e most : Int} (hI : IsRd w F g l at_ e) (h0 : 0 ≤ at_) (h1 : at_ ≤ l.length)
    (hr : w.heap[pr]? = some (.cells #[.pointer (some ⟨g, 0, none⟩)] 105 (0, 0))) (hm : w.heap[pm]? = some (.cells #[.int .u64 most] 22 (0, 0))) :
    Calls Try.prog 68 #[.pointer (some ⟨pr, 0, none⟩), .pointer (some ⟨pm, 0, none⟩)] w (NumPost F g l e w (Value.int .u64) (upL l at_ most)) := by
  have cr := blk_cell hr 0
  have cm := blk_cell hm 0
  have HU := Aside0.mk (upTo_any (most := most) hI h0 h1)
  clear hI hr hm
  obtain ⟨R, hR⟩ : ∃ R, upL l at_ most = R := ⟨_, rfl⟩
  rw [hR] at HU ⊢
  clear hR
  go_enter Try.func68, Try.ntmps68
  go_wp2_with fail
  refine HU.out.mono ?_
  clear HU
  cases R with
  | error x =>
    rintro en w1 ⟨rfl, h⟩
    exact ⟨rfl, rfl, h⟩
  | ok np =>
    rintro en w1 ⟨rfl, h⟩
    have H := Aside0.mk h
    clear h
    go_wp2_with fail
    go_ret
    exact ⟨rfl, H.out⟩
set_option maxHeartbeats 1000000 in
theorem Num_any {w : World} {F : Nat → Prop} {g : Nat} {l : List Int} {at_ e most : Int} (hI : IsRd w F g l at_ e) (hF : ∀ k, F k → k < w.heap.size) (h0 : 0 ≤ at_) (h1 : at_ ≤ l.length) :
    Calls Try.prog 62 #[.pointer (some ⟨g, 0, none⟩), .int .u64 most] w (RdOut (Value.int .u64) F g l w (rdNum l at_ e most)) := by
  have HI := Aside0.mk hI
  have HF := Aside0.mk hF
  clear hI hF
  obtain ⟨W, hW, b0, b1, hWs, hWb⟩ := two_new w (.cells #[.pointer (some ⟨g, 0, none⟩)] 105) (.cells #[.int .u64 most] 22)
  have HW := Aside0.mk hW
  have B0 := Aside0.mk b0
  have B1 := Aside0.mk b1
  have HWs := Aside0.mk hWs
  have HWb := Aside0.mk hWb
  have hmf : ∀ (fn : Fn) (first cap : Array Value) (w : World), (Instr.makeFunc fn first cap).run Try.prog w = .ok (.func fn first cap) w := fun _ _ _ _ => rfl
  clear hW b0 b1 hWs hWb
  go_enter Try.func62, Try.ntmps62
  go_wp2_with fail
  rw [HW.out]
  have hIW : IsRd W F g l at_ e := HI.out.mu (Mu.of_below HWb.out (fun _ => False)) (fun _ _ h => h)
  refine (triesdU (numV_stays (valOf (upL l at_ most))) (fun b w v h => ⟨_, h⟩) (f := 68) (first := #[]) (cap := #[.pointer (some ⟨w.heap.size, 0, none⟩), .pointer (some ⟨w.heap.size + 1, 0, none⟩)]) (args := #[.pointer (some ⟨w.heap.size, 0, none⟩), .pointer (some ⟨w.heap.size + 1, 0, none⟩)]) rfl (fun w => by kernel_rfl) (posOf (upL l at_ most)) (posOf_nz (fun x hx => upL_nz l _ _ x hx)) hIW (fun k hk => by rw [HWs.out]; have := HF.out k hk; omega)
    (fun he w1 hb1 => by
      subst he
      have hm1 := Mu.of_below hb1 (fun _ => False)
      exact (num1_any (hIW.mu hm1 (fun _ _ h => h)) h0 h1 (hm1.heap B0.out (fun h => h)) (hm1.heap B1.out (fun h => h))).mono (fun en w' h => rd_of_num h))).mono ?_
  rintro en w2 ⟨hm, hcase⟩
  have hm2 : Mu (· = g) w w2 := (Mu.of_below HWb.out _).trans hm
  have fin : ∃ v, en = .returned (.int .u64 v) ∧ RdOut (Value.int .u64) F g l w (rdNum l at_ e most) (.returned (.int .u64 v)) w2 := by
    rcases hcase with ⟨h, rfl, hI2⟩ | ⟨rfl, p', hp', ⟨v, rfl, hres⟩, hI2, q0, q1⟩ | ⟨rfl, x, hx, rfl, hI2⟩
    · refine ⟨0, rfl, ?_⟩
      unfold rdNum
      rw [if_pos h]
      exact ⟨rfl, hI2, h0, h1, hm2⟩
    · cases hu : upL l at_ most with
      | error x => rw [hu] at hp'; cases hp'
      | ok np =>
        obtain ⟨n, p⟩ := np
        rw [hu] at hp' hres
        obtain rfl : p = p' := by simpa [posOf] using hp'
        obtain rfl : v = .int .u64 n := hres
        refine ⟨n, rfl, ?_⟩
        unfold rdNum
        rw [if_neg (by simp), hu]
        exact ⟨rfl, hI2, q0, q1, hm2⟩
    · cases hu : upL l at_ most with
      | ok np => rw [hu] at hx; cases hx
      | error y =>
        rw [hu] at hx
        obtain rfl : y = x := by simpa [posOf] using hx
        refine ⟨0, rfl, ?_⟩
        unfold rdNum
        rw [if_neg (by simp), hu]
        exact ⟨rfl, hI2, h0, h1, hm2⟩
  obtain ⟨v, rfl, hfin⟩ := fin
  have HFin := Aside0.mk hfin
  clear hfin hcase hm hm2 hIW
  go_wp2_with fail
  go_ret
  exact HFin.out
end Go.Proofs.Ytdklanenmihpdaa.Hand
namespace Go.Proofs.Ytdklanenmihpdaa.PA
open Go.RowKit Go.Proofs.YtdklanenmihpdaaW.PrintWords Go.Proofs.YtdklanenmihpdaaW.PrintLast Go.Proofs.YtdklanenmihpdaaW.PrintMore
attribute [local go_sem] max2_int min2_int max_two min_two max_three min_three max_four min_four
open Go.Proofs.Ytdklanenmihpdaa.Hand
set_option linter.unusedVariables false
set_option linter.unusedSimpArgs false
def errW : Option Int → Value
  | none => .nilIface
  | some c => .iface 0 (.int .i64 c)
theorem errW_none : errW none = .nilIface := rfl
theorem errW_some (c : Int) : errW (some c) = .iface 0 (.int .i64 c) := rfl
theorem info5 : (Try.prog.info? 5).map (fun i => (i.zero, i.size, i.bytes)) = some (some (.int .u8 0), 1, 1) := by kernel_rfl
end Go.Proofs.Ytdklanenmihpdaa.PA
namespace Go.Proofs.Ytdklanenmihpdaa.PA
open Go.RowKit Go.Proofs.YtdklanenmihpdaaW.PrintWords Go.Proofs.YtdklanenmihpdaaW.PrintLast Go.Proofs.YtdklanenmihpdaaW.PrintMore
attribute [local go_sem] max2_int min2_int max_two min_two max_three min_three max_four min_four
open Go.Proofs.Ytdklanenmihpdaa.Hand
set_option linter.unusedVariables false
set_option linter.unusedSimpArgs false
mutual
def wire_Crc.l0 : Nat → Int → List Int → Int → Int → Option (Int)
  | 0, _, _, _, _ => none
  | k + 1, x3, x7, x8, x9 => if x9 < x8 then (if 0 ≤ x9 then (if x9 < (x7.length : Int) then (wire_Crc.l1 k (Go.bits .xor .u32 x3 ((rd x7 x9) % 4294967296)) x7 x8 x9 0) else (none)) else (none)) else (some (Go.bits .xor .u32 x3 4294967295))
def wire_Crc.l1 : Nat → Int → List Int → Int → Int → Int → Option (Int)
  | 0, _, _, _, _, _ => none
  | k + 1, x3, x7, x8, x9, x17 => if x17 < 8 then (wire_Crc.l1 k (Go.bits .xor .u32 (x3 / 2) ((3988292384 * (Go.bits .and .u32 x3 1)) % 4294967296)) x7 x8 x9 (wrap64 (x17 + 1))) else (wire_Crc.l0 k x3 x7 x8 (wrap64 (x9 + 1)))
end
def wire_Crc.f (k : Nat) (l0 : List Int) : Option (Int) := wire_Crc.l0 k 4294967295 l0 (l0.length : Int) 0
def wire_Four.f (a0 : Int) : Option (List Int) := some (([(a0 / 16777216) % 256, (a0 / 65536) % 256, (a0 / 256) % 256, (a0) % 256] : List Int))
def wire_Var.l0 : Nat → Int → List Int → Option (List Int)
  | 0, _, _ => none
  | k + 1, x0, x3 => if x0 ≥ 128 then (if x3.length < 140737488355328 then (wire_Var.l0 k (x0 / 128) (x3 ++ [Go.bits .or .u8 ((x0) % 256) 128])) else (none)) else (if x3.length < 140737488355328 then (some (x3 ++ [(x0) % 256])) else (none))
def wire_Var.f (k : Nat) (a0 : Int) : Option (List Int) := wire_Var.l0 k a0 ([] : List Int)
set_option maxHeartbeats 8000000 in
set_option maxRecDepth 100000 in
theorem wire_Var.calls (k : Nat) (a0 : Int) (r : List Int) (w : World) (h : wire_Var.f k a0 = some r) :
    Calls Try.prog 34 #[.int .u64 a0] w fun e w' => ∃ v0_ : Value, e = .returned (v0_) ∧ Kd.R (Kd.int .u8) 5 w' w.heap.size (fun _ => True) v0_ r ∧ Below w.heap.size w w' := by
  have HB := Aside0.mk (Below.refl w.heap.size w)
  have H : (wire_Var.l0 k a0 ([] : List Int)) = some r := h
  clear h
  have H' := Aside0.mk H
  clear H
  go_enter Try.func34, Try.ntmps34
  go_wp2
  go_loopg [0, 3] k (fun kq v0 v3 w' => ∃ (x0_1 : Int) (x3_1 : List Int), v0 = .int .u64 x0_1 ∧ Aside0 (wire_Var.l0 kq x0_1 x3_1 = some r) ∧ Aside0 (kq ≤ k) ∧ Aside0 (Kd.R (Kd.int .u8) 5 w' w.heap.size (fun _ => True) v3 x3_1) ∧ Aside0 (Below w.heap.size w w'))
  case atStart => exact ⟨(a0), (([] : List Int)), (by first | rfl | (simp; done) | (simp [*]; done)), H', ⟨Nat.le_refl _⟩, ⟨by first | exact Kd.R_nil _ _ _ _ _ | exact Kd.N_nil _ _ _ _ _ | exact Kd.V_nil _ _ _ _ _ | exact Kd.Q_nil _ _ _ _ _ | exact Kd.S_nil _ _ _ _ _⟩, ⟨by repeat (first | (with_reducible first | exact HB.out | apply below_alloc | apply pw_below_drewN | apply below_drew1) | exact HB.out)⟩⟩
  case round =>
    clear H'
    obtain ⟨x0_1, x3_1, rfl, HA, HK1, HO_3, HB⟩ := hrel
    cases gk with
    | zero => exact absurd HA.out (by simp [wire_Var.l0])
    | succ k1 =>
      have H := HA.out
      clear HA
      simp only [wire_Var.l0] at H
      by_cases c2 : x0_1 ≥ 128
      · rw [if_pos c2] at H
        have c2b0 : decide (128 ≤ x0_1) = true := decide_eq_true c2
        clear c2
        by_cases c3 : x3_1.length < 140737488355328
        · rw [if_pos c3] at H
          have LMc3 := Aside0.mk c3
          clear c3
          obtain ⟨y105, hy105⟩ : ∃ y_ : List Int, y_ = (x3_1 ++ [Go.bits .or .u8 ((x0_1) % 256) 128]) := ⟨_, rfl⟩
          replace H : (wire_Var.l0 k1 (x0_1 / 128) y105) = some r := by first | (rw [hy105]; with_reducible exact H) | (have H2_ := (Option.bind_some _ _).symm.trans H; rw [hy105]; with_reducible exact H2_) | (have H2_ := (Option.bind_some _ _).symm.trans H; with_reducible exact H2_) | with_reducible exact H | (rw [hy105]; exact H) | exact H
          have Ny105 := Aside0.mk hy105
          clear hy105
          have H' := Aside0.mk H
          clear H
          go_wp2_with (first | ((with_reducible refine gate_builtin (b := .append) (xs := #[.tmp 8, .tmp 12]) rfl ?_); at_builtin; refine Kd.R_append (Kd.int .u8) (w0 := w) w.heap.size rfl (.tmp 8) (.tmp 12) 23 5 (.int .u8 0) 1 rfl Try.underlying23 info5 rfl (by decide) (by omega) u3 x3_1 (Go.bits .or .u8 ((x0_1) % 256) 128) [.int .u8 (Go.bits .or .u8 ((x0_1) % 256) 128)] (fun _ => True) (fun _ => False) rfl rfl ?aP (fun _ hk => hk.elim) ?aF ?aO ?aB ?aS ?aL ?_; (case aP => exact rfl); (case aB => exact (by repeat (first | (with_reducible first | exact HB.out | apply below_alloc | apply pw_below_drewN | apply below_drew1) | exact HB.out))); (case aF => exact (fun _ _ => trivial)); (case aO => exact (by (with_reducible repeat (first | apply Kd.R_alloc | apply Kd.R_drewN | apply Kd.R_drew)); exact HO_3.out)); (case aS => exact (below_size (by repeat (first | (with_reducible first | exact HB.out | apply below_alloc | apply pw_below_drewN | apply below_drew1) | exact HB.out)))); (case aL => have := LMc3.out; omega); intro v106 w4 ho hb hg hat; rw [← Ny105.out] at ho; have n0_ := Aside0.mk (hb); have n1_ := Aside0.mk (ho); clear HB; clear HO_3; have HB := n0_; have HO107 := n1_; clear n0_ n1_; clear ho hb hg hat))
          go_roundg k1
          case measure => have := HK1.out; omega
          case rel => exact ⟨(x0_1 / 128), (y105), (by first | rfl | (simp; done) | (simp [*]; done)), H', ⟨by have := HK1.out; omega⟩, ⟨by (with_reducible repeat (first | apply Kd.R_alloc | apply Kd.R_drewN | apply Kd.R_drew)); exact HO107.out⟩, ⟨by repeat (first | (with_reducible first | exact HB.out | apply below_alloc | apply pw_below_drewN | apply below_drew1) | exact HB.out)⟩⟩
        · rw [if_neg c3] at H
          exact absurd H (by simp)
      · rw [if_neg c2] at H
        have c2b0 : decide (128 ≤ x0_1) = false := decide_eq_false c2
        clear c2
        by_cases c5 : x3_1.length < 140737488355328
        · rw [if_pos c5] at H
          have LMc5 := Aside0.mk c5
          clear c5
          obtain ⟨y108, hy108⟩ : ∃ y_ : List Int, y_ = (x3_1 ++ [(x0_1) % 256]) := ⟨_, rfl⟩
          replace H : (some y108) = some r := by first | (rw [hy108]; with_reducible exact H) | (have H2_ := (Option.bind_some _ _).symm.trans H; rw [hy108]; with_reducible exact H2_) | (have H2_ := (Option.bind_some _ _).symm.trans H; with_reducible exact H2_) | with_reducible exact H | (rw [hy108]; exact H) | exact H
          have Ny108 := Aside0.mk hy108
          clear hy108
          obtain rfl := Option.some.inj H
          go_wp2_with (first | ((with_reducible refine gate_builtin (b := .append) (xs := #[.tmp 14, .tmp 17]) rfl ?_); at_builtin; refine Kd.R_append (Kd.int .u8) (w0 := w) w.heap.size rfl (.tmp 14) (.tmp 17) 23 5 (.int .u8 0) 1 rfl Try.underlying23 info5 rfl (by decide) (by omega) u3 x3_1 ((x0_1) % 256) [.int .u8 ((x0_1) % 256)] (fun _ => True) (fun _ => False) rfl rfl ?aP (fun _ hk => hk.elim) ?aF ?aO ?aB ?aS ?aL ?_; (case aP => exact rfl); (case aB => exact (by repeat (first | (with_reducible first | exact HB.out | apply below_alloc | apply pw_below_drewN | apply below_drew1) | exact HB.out))); (case aF => exact (fun _ _ => trivial)); (case aO => exact (by (with_reducible repeat (first | apply Kd.R_alloc | apply Kd.R_drewN | apply Kd.R_drew)); exact HO_3.out)); (case aS => exact (below_size (by repeat (first | (with_reducible first | exact HB.out | apply below_alloc | apply pw_below_drewN | apply below_drew1) | exact HB.out)))); (case aL => have := LMc5.out; omega); intro v109 w6 ho hb hg hat; rw [← Ny108.out] at ho; have n0_ := Aside0.mk (hb); have n1_ := Aside0.mk (ho); clear HB; clear HO_3; have HB := n0_; have HO110 := n1_; clear n0_ n1_; clear ho hb hg hat))
          go_ret
          exact ⟨_, by first | rfl | (simp [errW_none, errW_some] <;> rfl) | (simp [*, errW_none, errW_some] <;> rfl), by (with_reducible repeat (first | apply Kd.R_alloc | apply Kd.R_drewN | apply Kd.R_drew)); exact HO110.out, by repeat (first | (with_reducible first | exact HB.out | apply below_alloc | apply pw_below_drewN | apply below_drew1) | exact HB.out)⟩
        · rw [if_neg c5] at H
          exact absurd H (by simp)
def bytes_Equal.f (l0 : List Int) (l1 : List Int) : Option (Bool) := some ((strOfNums l0).toList == (strOfNums l1).toList)
set_option maxHeartbeats 8000000 in
set_option maxRecDepth 100000 in
theorem bytes_Equal.calls (A0 : Option Addr) (c0 : Nat) (l0 : List Int) (A1 : Option Addr) (c1 : Nat) (l1 : List Int) (r : Bool) (w : World) (hr0 : Kd.C (Kd.int .u8) w A0 l0.length l0) (hc0 : l0.length ≤ c0) (hr1 : Kd.C (Kd.int .u8) w A1 l1.length l1) (hc1 : l1.length ≤ c1) (h : bytes_Equal.f l0 l1 = some r) :
    Calls Try.prog 44 #[.slice A0 l0.length c0, .slice A1 l1.length c1] w fun e w' => e = .returned (.bool r) ∧ Drawn0 w w' := by
  have HR0 := Aside0.mk hr0
  have HC0 := Aside0.mk hc0
  clear hr0 hc0
  have HR1 := Aside0.mk hr1
  have HC1 := Aside0.mk hc1
  clear hr1 hc1
  have H : (some ((strOfNums l0).toList == (strOfNums l1).toList)) = some r := h
  clear h
  obtain rfl := Option.some.inj H
  have hcv3 := Kd.C_string (P := Try.prog) (A := A0) (c := c0) Try.underlying23 Try.underlying5 Try.underlying9 HR0.out
  have hcv4 := Kd.C_string (P := Try.prog) (A := A1) (c := c1) Try.underlying23 Try.underlying5 Try.underlying9 HR1.out
  go_enter Try.func44, Try.ntmps44
  go_wp2
  go_ret
  exact ⟨by first | rfl | (simp; done) | (simp [*]; done), by repeat (first | exact Drawn0.refl _ | apply Drawn0.step)⟩
mutual
def tikref2_Get.j0 : Nat → List Int → Int → Bool → Option (Int × Int × Int)
  | 0, _, _, _ => none
  | k + 1, x0, x1, x17 => if x17 = true then (some (0, 0, 1)) else (tikref2_Get.l0 k x0 x1 0 0)
def tikref2_Get.l0 : Nat → List Int → Int → Int → Int → Option (Int × Int × Int)
  | 0, _, _, _, _ => none
  | k + 1, x0, x1, x7, x8 => if x8 < 10 then (if (wrap64 (x1 + x8)) ≥ (x0.length : Int) then (some (0, 0, 3)) else (if 0 ≤ (wrap64 (x1 + x8)) then (if (wrap64 (x1 + x8)) < (x0.length : Int) then (if x8 = 9 then (tikref2_Get.j2 k x0 x1 x7 x8 (IntKind.u64.wrap (rd x0 (wrap64 (x1 + x8)))) (decide ((IntKind.u64.wrap (rd x0 (wrap64 (x1 + x8)))) > 1))) else (tikref2_Get.j2 k x0 x1 x7 x8 (IntKind.u64.wrap (rd x0 (wrap64 (x1 + x8)))) false)) else (none)) else (none))) else (some (0, 0, 2))
def tikref2_Get.j2 : Nat → List Int → Int → Int → Int → Int → Bool → Option (Int × Int × Int)
  | 0, _, _, _, _, _, _ => none
  | k + 1, x0, x1, x7, x8, x9, x40 => if x40 = true then (some (0, 0, 2)) else (if 0 ≤ (IntKind.u64.wrap (wrap64 (7 * x8))) then (if x9 < 128 then (if x9 = 0 then (if x8 > 0 then (some (0, 0, 2)) else (some (Go.bits .or .u64 x7 (shl .u64 (Go.bits .and .u64 x9 127) (IntKind.u64.wrap (wrap64 (7 * x8)))), wrap64 ((wrap64 (x1 + x8)) + 1), 0))) else (some (Go.bits .or .u64 x7 (shl .u64 (Go.bits .and .u64 x9 127) (IntKind.u64.wrap (wrap64 (7 * x8)))), wrap64 ((wrap64 (x1 + x8)) + 1), 0))) else (tikref2_Get.l0 k x0 x1 (Go.bits .or .u64 x7 (shl .u64 (Go.bits .and .u64 x9 127) (IntKind.u64.wrap (wrap64 (7 * x8))))) (wrap64 (x8 + 1)))) else (none))
end
def tikref2_Get.f (k : Nat) (l0 : List Int) (a1 : Int) : Option (Int × Int × Int) := if a1 < 0 then (tikref2_Get.j0 k l0 a1 true) else (tikref2_Get.j0 k l0 a1 (decide (a1 > (l0.length : Int))))
set_option maxHeartbeats 8000000 in
set_option maxRecDepth 100000 in
theorem tikref2_Get.calls (k : Nat) (A0 : Option Addr) (c0 : Nat) (l0 : List Int) (a1 : Int) (r1 : Int) (r2 : Int) (r3 : Int) (w : World) (hr0 : Kd.C (Kd.int .u8) w A0 l0.length l0) (hc0 : l0.length ≤ c0) (h : tikref2_Get.f k l0 a1 = some (r1, r2, r3)) :
    Calls Try.prog 45 #[.slice A0 l0.length c0, .int .i64 a1] w fun e w' => e = .returned (.tuple #[.int .u64 r1, .int .i64 r2, .int .i64 r3]) ∧ Drawn0 w w' := by
  have HR0 := Aside0.mk hr0
  have HC0 := Aside0.mk hc0
  clear hr0 hc0
  have H : (if a1 < 0 then (tikref2_Get.j0 k l0 a1 true) else (tikref2_Get.j0 k l0 a1 (decide (a1 > (l0.length : Int))))) = some (r1, r2, r3) := h
  clear h
  have HC3 := Aside0.mk H
  clear H
  go_enter Try.func45, Try.ntmps45
  go_upto_region 1 with (fail)
  go_cut [17] (fun v17 wc => ∃ (kq : Nat) (x17_2 : Bool), v17 = .bool x17_2 ∧ Aside0 (tikref2_Get.j0 kq l0 a1 x17_2 = some (r1, r2, r3)) ∧ Aside0 (kq ≤ k) ∧ Drawn0 w wc)
  case first =>
    have H := HC3.out
    clear HC3
    by_cases c4 : a1 < 0
    · rw [if_pos c4] at H
      have c4b0 : decide (a1 < 0) = true := decide_eq_true c4
      clear c4
      (first | rw [c4b0] | (simp only [i64_w, i32_w]; rw [c4b0]) | skip)
      have H' := Aside0.mk H
      clear H
      go_wp2
      go_meet
      case rel => exact ⟨_, (true), (by first | rfl | (simp; done) | (simp [*]; done)), H', ⟨by first | omega | exact Nat.le_refl _⟩, by repeat (first | exact Drawn0.refl _ | apply Drawn0.step)⟩
    · rw [if_neg c4] at H
      have c4b0 : decide (a1 < 0) = false := decide_eq_false c4
      clear c4
      (first | rw [c4b0] | (simp only [i64_w, i32_w]; rw [c4b0]) | skip)
      have H' := Aside0.mk H
      clear H
      go_wp2
      go_meet
      case rel => exact ⟨_, (decide (a1 > (l0.length : Int))), (by first | rfl | (simp; done) | (simp [*]; done)), H', ⟨by first | omega | exact Nat.le_refl _⟩, by repeat (first | exact Drawn0.refl _ | apply Drawn0.step)⟩
  case rest =>
    clear HC3
    try clear p2
    try clear c4
    try clear c4b0
    obtain ⟨kq, x17_2, rfl, HA, HJ2, ⟨mc2, rfl⟩⟩ := hcut
    cases kq with
    | zero => exact absurd HA.out (by simp [tikref2_Get.j0])
    | succ kj2 =>
      have H := HA.out
      clear HA
      simp only [tikref2_Get.j0] at H
      by_cases c5 : x17_2 = true
      · subst c5
        have H1 : (some (0, 0, 1)) = some (r1, r2, r3) := by rw [if_pos rfl] at H; exact H
        clear H
        have H := H1
        clear H1
        simp only [Option.some.injEq, Prod.mk.injEq] at H
        obtain ⟨rfl, rfl, rfl⟩ := H
        go_wp2
        go_ret3
        exact ⟨by first | rfl | (simp; done) | (simp [*]; done), by repeat (first | exact Drawn0.refl _ | apply Drawn0.step)⟩
      · replace c5 := Bool.eq_false_iff.mpr c5
        subst c5
        have H1 : (tikref2_Get.l0 kj2 l0 a1 0 0) = some (r1, r2, r3) := by rw [if_neg (show ¬ (false = true) by decide)] at H; exact H
        clear H
        have H := H1
        clear H1
        have H' := Aside0.mk H
        clear H
        go_wp2
        go_loopg [7, 8] kj2 (fun kq v7 v8 w' => ∃ (x7_2 : Int) (x8_2 : Int), v7 = .int .u64 x7_2 ∧ v8 = .int .i64 x8_2 ∧ Aside0 (tikref2_Get.l0 kq l0 a1 x7_2 x8_2 = some (r1, r2, r3)) ∧ Aside0 (kq ≤ kj2) ∧ Drawn0 w w')
        case atStart => exact ⟨(0), (0), (by first | rfl | (simp; done) | (simp [*]; done)), (by first | rfl | (simp; done) | (simp [*]; done)), H', ⟨Nat.le_refl _⟩, by repeat (first | exact Drawn0.refl _ | apply Drawn0.step)⟩
        case round =>
          clear H'
          try clear c2
          try clear p2
          try clear c4
          try clear c4b0
          try clear c5
          try clear p2
          obtain ⟨x7_2, x8_2, rfl, rfl, HA, HK2, ⟨m2, rfl⟩⟩ := hrel
          cases gk with
          | zero => exact absurd HA.out (by simp [tikref2_Get.l0])
          | succ k2 =>
            have H := HA.out
            clear HA
            simp only [tikref2_Get.l0] at H
            by_cases c6 : x8_2 < 10
            · rw [if_pos c6] at H
              have c6b0 : decide (x8_2 < 10) = true := decide_eq_true c6
              clear c6
              by_cases c7 : (wrap64 (a1 + x8_2)) ≥ (l0.length : Int)
              · rw [if_pos c7] at H
                have c7b0 : decide ((l0.length : Int) ≤ (wrap64 (a1 + x8_2))) = true := decide_eq_true c7
                clear c7
                simp only [Option.some.injEq, Prod.mk.injEq] at H
                obtain ⟨rfl, rfl, rfl⟩ := H
                go_wp2
                go_ret3
                exact ⟨by first | rfl | (simp; done) | (simp [*]; done), by repeat (first | exact Drawn0.refl _ | apply Drawn0.step)⟩
              · rw [if_neg c7] at H
                have c7b0 : decide ((l0.length : Int) ≤ (wrap64 (a1 + x8_2))) = false := decide_eq_false c7
                clear c7
                obtain ⟨ji8, hji8⟩ : ∃ j_ : Int, (wrap64 (a1 + x8_2)) = j_ := ⟨_, rfl⟩
                replace H : (if 0 ≤ (ji8) then (if (ji8) < (l0.length : Int) then (if x8_2 = 9 then (tikref2_Get.j2 k2 l0 a1 x7_2 x8_2 (IntKind.u64.wrap (rd l0 (ji8))) (decide ((IntKind.u64.wrap (rd l0 (ji8))) > 1))) else (tikref2_Get.j2 k2 l0 a1 x7_2 x8_2 (IntKind.u64.wrap (rd l0 (ji8))) false)) else (none)) else (none)) = some (r1, r2, r3) := by first | (rw [hji8] at H; exact H) | (simp only [hji8] at H ⊢; exact H)
                (try rw [hji8] at c7b0)
                have hji8w : (IntKind.i64.wrap (a1 + x8_2)) = ji8 := (i64_w _).trans hji8
                by_cases c9 : 0 ≤ (ji8)
                · rw [if_pos c9] at H
                  have c9b0 : decide (0 ≤ (ji8)) = true := decide_eq_true c9
                  clear c9
                  by_cases c10 : (ji8) < (l0.length : Int)
                  · rw [if_pos c10] at H
                    have c10b0 : decide ((ji8) < (l0.length : Int)) = true := decide_eq_true c10
                    clear c10
                    have HC11 := Aside0.mk H
                    clear H
                    have p111 : 0 ≤ ((ji8) : Int) := of_decide_eq_true (by first | (with_reducible assumption) | assumption)
                    have q111 : (ji8) < (l0.length : Int) := of_decide_eq_true (by first | (with_reducible assumption) | assumption)
                    obtain ⟨ad111, e111, hx111_0⟩ := Kd.at_int HR0.out (ji8) p111 q111
                    cases e111
                    replace p111 := eq_true p111
                    replace q111 := eq_true q111
                    go_upto_region 10 with (fail)
                    go_cut [40] (fun v40 wc => ∃ (kq : Nat) (x40_10 : Bool), v40 = .bool x40_10 ∧ Aside0 (tikref2_Get.j2 kq l0 a1 x7_2 x8_2 (IntKind.u64.wrap (rd l0 (ji8))) x40_10 = some (r1, r2, r3)) ∧ Aside0 (kq ≤ k2) ∧ Drawn0 w wc)
                    case first =>
                      have H := HC11.out
                      clear HC11
                      by_cases c12 : x8_2 = 9
                      · rw [if_pos c12] at H
                        have c12b0 : (x8_2 == 9) = true := beq_iff_eq.mpr c12
                        have c12b1 : (x8_2 != 9) = false := bne_eq_false_iff_eq.mpr c12
                        clear c12
                        (first | rw [c12b0] | (simp only [i64_w, i32_w]; rw [c12b0]) | skip)
                        have H' := Aside0.mk H
                        clear H
                        go_wp2
                        go_meet
                        case rel => exact ⟨_, (decide ((IntKind.u64.wrap (rd l0 (ji8))) > 1)), (by first | rfl | (simp; done) | (simp only [← hji8] <;> (first | rfl | simp)) | (simp [*]; done)), H', ⟨by have := HJ2.out; have := HK2.out; first | omega | exact Nat.le_refl _⟩, by repeat (first | exact Drawn0.refl _ | apply Drawn0.step)⟩
                      · rw [if_neg c12] at H
                        have c12b0 : (x8_2 == 9) = false := beq_eq_false_iff_ne.mpr c12
                        have c12b1 : (x8_2 != 9) = true := bne_iff_ne.mpr c12
                        (first | rw [c12b0] | (simp only [i64_w, i32_w]; rw [c12b0]) | skip)
                        have H' := Aside0.mk H
                        clear H
                        go_wp2
                        go_meet
                        case rel => exact ⟨_, (false), (by first | rfl | (simp; done) | (simp [*]; done)), H', ⟨by have := HJ2.out; have := HK2.out; first | omega | exact Nat.le_refl _⟩, by repeat (first | exact Drawn0.refl _ | apply Drawn0.step)⟩
                    case rest =>
                      clear HC11
                      try clear c1
                      try clear p1
                      try clear q1
                      try clear hx1
                      try clear c2
                      try clear p2
                      try clear c4
                      try clear c4b0
                      try clear c5
                      try clear c6
                      try clear c6b0
                      try clear p6
                      try clear c7
                      try clear c7b0
                      try clear c9
                      try clear c9b0
                      try clear c10
                      try clear c10b0
                      try clear p11
                      try clear q11
                      try clear hx11
                      try clear c12
                      try clear c12b0
                      try clear c12b1
                      try clear hx111_0
                      try clear p111
                      try clear p2
                      try clear q111
                      obtain ⟨kq, x40_10, rfl, HA, HJ10, ⟨mc10, rfl⟩⟩ := hcut
                      cases kq with
                      | zero => exact absurd HA.out (by simp [tikref2_Get.j2])
                      | succ kj10 =>
                        have H := HA.out
                        clear HA
                        simp only [tikref2_Get.j2] at H
                        by_cases c13 : x40_10 = true
                        · subst c13
                          have H1 : (some (0, 0, 2)) = some (r1, r2, r3) := by rw [if_pos rfl] at H; exact H
                          clear H
                          have H := H1
                          clear H1
                          simp only [Option.some.injEq, Prod.mk.injEq] at H
                          obtain ⟨rfl, rfl, rfl⟩ := H
                          go_wp2
                          go_ret3
                          exact ⟨by first | rfl | (simp; done) | (simp only [← hji8] <;> (first | rfl | simp)) | (simp [*]; done), by repeat (first | exact Drawn0.refl _ | apply Drawn0.step)⟩
                        · replace c13 := Bool.eq_false_iff.mpr c13
                          subst c13
                          have H1 : (if 0 ≤ (IntKind.u64.wrap (wrap64 (7 * x8_2))) then (if (IntKind.u64.wrap (rd l0 (ji8))) < 128 then (if (IntKind.u64.wrap (rd l0 (ji8))) = 0 then (if x8_2 > 0 then (some (0, 0, 2)) else (some (Go.bits .or .u64 x7_2 (shl .u64 (Go.bits .and .u64 (IntKind.u64.wrap (rd l0 (ji8))) 127) (IntKind.u64.wrap (wrap64 (7 * x8_2)))), wrap64 ((wrap64 (a1 + x8_2)) + 1), 0))) else (some (Go.bits .or .u64 x7_2 (shl .u64 (Go.bits .and .u64 (IntKind.u64.wrap (rd l0 (ji8))) 127) (IntKind.u64.wrap (wrap64 (7 * x8_2)))), wrap64 ((wrap64 (a1 + x8_2)) + 1), 0))) else (tikref2_Get.l0 kj10 l0 a1 (Go.bits .or .u64 x7_2 (shl .u64 (Go.bits .and .u64 (IntKind.u64.wrap (rd l0 (ji8))) 127) (IntKind.u64.wrap (wrap64 (7 * x8_2))))) (wrap64 (x8_2 + 1)))) else (none)) = some (r1, r2, r3) := by rw [if_neg (show ¬ (false = true) by decide)] at H; exact H
                          clear H
                          have H := H1
                          clear H1
                          obtain ⟨ji14, hji14⟩ : ∃ j_ : Int, (IntKind.u64.wrap (wrap64 (7 * x8_2))) = j_ := ⟨_, rfl⟩
                          replace H : (if 0 ≤ (ji14) then (if (IntKind.u64.wrap (rd l0 (ji8))) < 128 then (if (IntKind.u64.wrap (rd l0 (ji8))) = 0 then (if x8_2 > 0 then (some (0, 0, 2)) else (some (Go.bits .or .u64 x7_2 (shl .u64 (Go.bits .and .u64 (IntKind.u64.wrap (rd l0 (ji8))) 127) (ji14)), wrap64 ((wrap64 (a1 + x8_2)) + 1), 0))) else (some (Go.bits .or .u64 x7_2 (shl .u64 (Go.bits .and .u64 (IntKind.u64.wrap (rd l0 (ji8))) 127) (ji14)), wrap64 ((wrap64 (a1 + x8_2)) + 1), 0))) else (tikref2_Get.l0 kj10 l0 a1 (Go.bits .or .u64 x7_2 (shl .u64 (Go.bits .and .u64 (IntKind.u64.wrap (rd l0 (ji8))) 127) (ji14))) (wrap64 (x8_2 + 1)))) else (none)) = some (r1, r2, r3) := by first | (rw [hji14] at H; exact H) | (simp only [hji14] at H ⊢; exact H)
                          by_cases c15 : 0 ≤ (ji14)
                          · rw [if_pos c15] at H
                            have c15b0 := eq_true c15
                            have c15b1 : decide (0 ≤ (ji14)) = true := decide_eq_true c15
                            clear c15
                            obtain ⟨ji16, hji16⟩ : ∃ j_ : Int, (shl .u64 (Go.bits .and .u64 (IntKind.u64.wrap (rd l0 (ji8))) 127) (ji14)) = j_ := ⟨_, rfl⟩
                            replace H : (if (IntKind.u64.wrap (rd l0 (ji8))) < 128 then (if (IntKind.u64.wrap (rd l0 (ji8))) = 0 then (if x8_2 > 0 then (some (0, 0, 2)) else (some (Go.bits .or .u64 x7_2 (ji16), wrap64 ((wrap64 (a1 + x8_2)) + 1), 0))) else (some (Go.bits .or .u64 x7_2 (ji16), wrap64 ((wrap64 (a1 + x8_2)) + 1), 0))) else (tikref2_Get.l0 kj10 l0 a1 (Go.bits .or .u64 x7_2 (ji16)) (wrap64 (x8_2 + 1)))) = some (r1, r2, r3) := by first | (rw [hji16] at H; exact H) | (simp only [hji16] at H ⊢; exact H)
                            have hji16_ : (IntKind.u64.wrap ((Go.bits .and .u64 (IntKind.u64.wrap (rd l0 (ji8))) 127) * 2 ^ min (ji14).toNat 64)) = ji16 := hji16
                            have hji16z : (ji14) ≤ 64 → (IntKind.u64.wrap ((Go.bits .and .u64 (IntKind.u64.wrap (rd l0 (ji8))) 127) * 2 ^ (ji14).toNat)) = ji16 := shl_small hji16
                            by_cases c17 : (IntKind.u64.wrap (rd l0 (ji8))) < 128
                            · rw [if_pos c17] at H
                              have c17b0 : decide ((IntKind.u64.wrap (rd l0 (ji8))) < 128) = true := decide_eq_true c17
                              clear c17
                              by_cases c18 : (IntKind.u64.wrap (rd l0 (ji8))) = 0
                              · rw [if_pos c18] at H
                                have c18b0 : ((IntKind.u64.wrap (rd l0 (ji8))) == 0) = true := beq_iff_eq.mpr c18
                                have c18b1 : ((IntKind.u64.wrap (rd l0 (ji8))) != 0) = false := bne_eq_false_iff_eq.mpr c18
                                clear c18
                                by_cases c19 : x8_2 > 0
                                · rw [if_pos c19] at H
                                  have c19b0 : decide (0 < x8_2) = true := decide_eq_true c19
                                  clear c19
                                  simp only [Option.some.injEq, Prod.mk.injEq] at H
                                  obtain ⟨rfl, rfl, rfl⟩ := H
                                  go_wp2
                                  go_ret3
                                  exact ⟨by first | rfl | (simp; done) | (simp only [← hji8, ← hji14, ← hji16] <;> (first | rfl | simp)) | (simp [*]; done), by repeat (first | exact Drawn0.refl _ | apply Drawn0.step)⟩
                                · rw [if_neg c19] at H
                                  have c19b0 : decide (0 < x8_2) = false := decide_eq_false c19
                                  clear c19
                                  simp only [Option.some.injEq, Prod.mk.injEq] at H
                                  obtain ⟨rfl, rfl, rfl⟩ := H
                                  go_wp2
                                  go_ret3
                                  exact ⟨by first | rfl | (simp; done) | (simp only [← hji8, ← hji14, ← hji16] <;> (first | rfl | simp)) | (simp [*]; done), by repeat (first | exact Drawn0.refl _ | apply Drawn0.step)⟩
                              · rw [if_neg c18] at H
                                have c18b0 : ((IntKind.u64.wrap (rd l0 (ji8))) == 0) = false := beq_eq_false_iff_ne.mpr c18
                                have c18b1 : ((IntKind.u64.wrap (rd l0 (ji8))) != 0) = true := bne_iff_ne.mpr c18
                                simp only [Option.some.injEq, Prod.mk.injEq] at H
                                obtain ⟨rfl, rfl, rfl⟩ := H
                                go_wp2
                                go_ret3
                                exact ⟨by first | rfl | (simp; done) | (simp only [← hji8, ← hji14, ← hji16] <;> (first | rfl | simp)) | (simp [*]; done), by repeat (first | exact Drawn0.refl _ | apply Drawn0.step)⟩
                            · rw [if_neg c17] at H
                              have c17b0 : decide ((IntKind.u64.wrap (rd l0 (ji8))) < 128) = false := decide_eq_false c17
                              clear c17
                              have H' := Aside0.mk H
                              clear H
                              go_wp2
                              go_roundg kj10
                              case measure => have := HJ2.out; have := HK2.out; have := HJ10.out; omega
                              case rel => exact ⟨(Go.bits .or .u64 x7_2 (ji16)), (wrap64 (x8_2 + 1)), (by first | rfl | (simp; done) | (simp only [← hji16] <;> (first | rfl | simp)) | (simp [*]; done)), (by first | rfl | (simp; done) | (simp [*]; done)), H', ⟨by have := HJ2.out; have := HK2.out; have := HJ10.out; omega⟩, by repeat (first | exact Drawn0.refl _ | apply Drawn0.step)⟩
                          · rw [if_neg c15] at H
                            exact absurd H (by simp)
                  · rw [if_neg c10] at H
                    exact absurd H (by simp)
                · rw [if_neg c9] at H
                  exact absurd H (by simp)
            · rw [if_neg c6] at H
              have c6b0 : decide (x8_2 < 10) = false := decide_eq_false c6
              clear c6
              simp only [Option.some.injEq, Prod.mk.injEq] at H
              obtain ⟨rfl, rfl, rfl⟩ := H
              go_wp2
              go_ret3
              exact ⟨by first | rfl | (simp; done) | (simp [*]; done), by repeat (first | exact Drawn0.refl _ | apply Drawn0.step)⟩
mutual
def tikref2_Crc.l0 : Nat → List Int → Int → Int → Option (Int)
  | 0, _, _, _ => none
  | k + 1, x0, x3, x4 => if x4 < (x0.length : Int) then (if 0 ≤ x4 then (tikref2_Crc.l1 k x0 (Go.bits .xor .u32 x3 ((rd x0 x4) % 4294967296)) x4 0) else (none)) else (some (Go.bits .xor .u32 4294967295 x3))
def tikref2_Crc.l1 : Nat → List Int → Int → Int → Int → Option (Int)
  | 0, _, _, _, _ => none
  | k + 1, x0, x3, x4, x5 => if x5 < 8 then (if (Go.bits .and .u32 x3 1) = 1 then (tikref2_Crc.l1 k x0 (Go.bits .xor .u32 (x3 / 2) 3988292384) x4 (wrap64 (x5 + 1))) else (tikref2_Crc.l1 k x0 (x3 / 2) x4 (wrap64 (x5 + 1)))) else (tikref2_Crc.l0 k x0 x3 (wrap64 (x4 + 1)))
end
def tikref2_Crc.f (k : Nat) (l0 : List Int) : Option (Int) := tikref2_Crc.l0 k l0 4294967295 0
def tikref2_Four.f (a0 : Int) : Option (List Int) := some (([(a0 / 16777216) % 256, (a0 / 65536) % 256, (a0 / 256) % 256, (a0) % 256] : List Int))
end Go.Proofs.Ytdklanenmihpdaa.PA
namespace Go.Proofs.Ytdklanenmihpdaa.PA
open Go.RowKit Go.Proofs.YtdklanenmihpdaaW.PrintWords Go.Proofs.YtdklanenmihpdaaW.PrintLast Go.Proofs.YtdklanenmihpdaaW.PrintMore
attribute [local go_sem] max2_int min2_int max_two min_two max_three min_three max_four min_four
open Go.Proofs.Ytdklanenmihpdaa.Hand
set_option linter.unusedVariables false
set_option linter.unusedSimpArgs false
def tikref2_Var.l0 : Nat → Int → List Int → Option (List Int)
  | 0, _, _ => none
  | k + 1, x0, x3 => if x0 > 127 then (if x3.length < 140737488355328 then (tikref2_Var.l0 k (x0 / 128) (x3 ++ [(Go.bits .or .u64 (Go.bits .and .u64 x0 127) 128) % 256])) else (none)) else (if x3.length < 140737488355328 then (some (x3 ++ [(x0) % 256])) else (none))
def tikref2_Var.f (k : Nat) (a0 : Int) : Option (List Int) := tikref2_Var.l0 k a0 ([] : List Int)
set_option maxHeartbeats 8000000 in
set_option maxRecDepth 100000 in
theorem tikref2_Var.calls (k : Nat) (a0 : Int) (r : List Int) (w : World) (h : tikref2_Var.f k a0 = some r) :
    Calls Try.prog 48 #[.int .u64 a0] w fun e w' => ∃ v0_ : Value, e = .returned (v0_) ∧ Kd.R (Kd.int .u8) 5 w' w.heap.size (fun _ => True) v0_ r ∧ Below w.heap.size w w' := by
  have HB := Aside0.mk (Below.refl w.heap.size w)
  have H : (tikref2_Var.l0 k a0 ([] : List Int)) = some r := h
  clear h
  have H' := Aside0.mk H
  clear H
  go_enter Try.func48, Try.ntmps48
  go_wp2
  go_loopg [0, 3] k (fun kq v0 v3 w' => ∃ (x0_1 : Int) (x3_1 : List Int), v0 = .int .u64 x0_1 ∧ Aside0 (tikref2_Var.l0 kq x0_1 x3_1 = some r) ∧ Aside0 (kq ≤ k) ∧ Aside0 (Kd.R (Kd.int .u8) 5 w' w.heap.size (fun _ => True) v3 x3_1) ∧ Aside0 (Below w.heap.size w w'))
  case atStart => exact ⟨(a0), (([] : List Int)), (by first | rfl | (simp; done) | (simp [*]; done)), H', ⟨Nat.le_refl _⟩, ⟨by first | exact Kd.R_nil _ _ _ _ _ | exact Kd.N_nil _ _ _ _ _ | exact Kd.V_nil _ _ _ _ _ | exact Kd.Q_nil _ _ _ _ _ | exact Kd.S_nil _ _ _ _ _⟩, ⟨by repeat (first | (with_reducible first | exact HB.out | apply below_alloc | apply pw_below_drewN | apply below_drew1) | exact HB.out)⟩⟩
  case round =>
    clear H'
    obtain ⟨x0_1, x3_1, rfl, HA, HK1, HO_3, HB⟩ := hrel
    cases gk with
    | zero => exact absurd HA.out (by simp [tikref2_Var.l0])
    | succ k1 =>
      have H := HA.out
      clear HA
      simp only [tikref2_Var.l0] at H
      by_cases c2 : x0_1 > 127
      · rw [if_pos c2] at H
        have c2b0 : decide (127 < x0_1) = true := decide_eq_true c2
        clear c2
        by_cases c3 : x3_1.length < 140737488355328
        · rw [if_pos c3] at H
          have LMc3 := Aside0.mk c3
          clear c3
          obtain ⟨y116, hy116⟩ : ∃ y_ : List Int, y_ = (x3_1 ++ [(Go.bits .or .u64 (Go.bits .and .u64 x0_1 127) 128) % 256]) := ⟨_, rfl⟩
          replace H : (tikref2_Var.l0 k1 (x0_1 / 128) y116) = some r := by first | (rw [hy116]; with_reducible exact H) | (have H2_ := (Option.bind_some _ _).symm.trans H; rw [hy116]; with_reducible exact H2_) | (have H2_ := (Option.bind_some _ _).symm.trans H; with_reducible exact H2_) | with_reducible exact H | (rw [hy116]; exact H) | exact H
          have Ny116 := Aside0.mk hy116
          clear hy116
          have H' := Aside0.mk H
          clear H
          go_wp2_with (first | ((with_reducible refine gate_builtin (b := .append) (xs := #[.tmp 6, .tmp 11]) rfl ?_); at_builtin; refine Kd.R_append (Kd.int .u8) (w0 := w) w.heap.size rfl (.tmp 6) (.tmp 11) 23 5 (.int .u8 0) 1 rfl Try.underlying23 info5 rfl (by decide) (by omega) u3 x3_1 ((Go.bits .or .u64 (Go.bits .and .u64 x0_1 127) 128) % 256) [.int .u8 ((Go.bits .or .u64 (Go.bits .and .u64 x0_1 127) 128) % 256)] (fun _ => True) (fun _ => False) rfl rfl ?aP (fun _ hk => hk.elim) ?aF ?aO ?aB ?aS ?aL ?_; (case aP => exact rfl); (case aB => exact (by repeat (first | (with_reducible first | exact HB.out | apply below_alloc | apply pw_below_drewN | apply below_drew1) | exact HB.out))); (case aF => exact (fun _ _ => trivial)); (case aO => exact (by (with_reducible repeat (first | apply Kd.R_alloc | apply Kd.R_drewN | apply Kd.R_drew)); exact HO_3.out)); (case aS => exact (below_size (by repeat (first | (with_reducible first | exact HB.out | apply below_alloc | apply pw_below_drewN | apply below_drew1) | exact HB.out)))); (case aL => have := LMc3.out; omega); intro v117 w4 ho hb hg hat; rw [← Ny116.out] at ho; have n0_ := Aside0.mk (hb); have n1_ := Aside0.mk (ho); clear HB; clear HO_3; have HB := n0_; have HO118 := n1_; clear n0_ n1_; clear ho hb hg hat))
          go_roundg k1
          case measure => have := HK1.out; omega
          case rel => exact ⟨(x0_1 / 128), (y116), (by first | rfl | (simp; done) | (simp [*]; done)), H', ⟨by have := HK1.out; omega⟩, ⟨by (with_reducible repeat (first | apply Kd.R_alloc | apply Kd.R_drewN | apply Kd.R_drew)); exact HO118.out⟩, ⟨by repeat (first | (with_reducible first | exact HB.out | apply below_alloc | apply pw_below_drewN | apply below_drew1) | exact HB.out)⟩⟩
        · rw [if_neg c3] at H
          exact absurd H (by simp)
      · rw [if_neg c2] at H
        have c2b0 : decide (127 < x0_1) = false := decide_eq_false c2
        clear c2
        by_cases c5 : x3_1.length < 140737488355328
        · rw [if_pos c5] at H
          have LMc5 := Aside0.mk c5
          clear c5
          obtain ⟨y119, hy119⟩ : ∃ y_ : List Int, y_ = (x3_1 ++ [(x0_1) % 256]) := ⟨_, rfl⟩
          replace H : (some y119) = some r := by first | (rw [hy119]; with_reducible exact H) | (have H2_ := (Option.bind_some _ _).symm.trans H; rw [hy119]; with_reducible exact H2_) | (have H2_ := (Option.bind_some _ _).symm.trans H; with_reducible exact H2_) | with_reducible exact H | (rw [hy119]; exact H) | exact H
          have Ny119 := Aside0.mk hy119
          clear hy119
          obtain rfl := Option.some.inj H
          go_wp2_with (first | ((with_reducible refine gate_builtin (b := .append) (xs := #[.tmp 15, .tmp 18]) rfl ?_); at_builtin; refine Kd.R_append (Kd.int .u8) (w0 := w) w.heap.size rfl (.tmp 15) (.tmp 18) 23 5 (.int .u8 0) 1 rfl Try.underlying23 info5 rfl (by decide) (by omega) u3 x3_1 ((x0_1) % 256) [.int .u8 ((x0_1) % 256)] (fun _ => True) (fun _ => False) rfl rfl ?aP (fun _ hk => hk.elim) ?aF ?aO ?aB ?aS ?aL ?_; (case aP => exact rfl); (case aB => exact (by repeat (first | (with_reducible first | exact HB.out | apply below_alloc | apply pw_below_drewN | apply below_drew1) | exact HB.out))); (case aF => exact (fun _ _ => trivial)); (case aO => exact (by (with_reducible repeat (first | apply Kd.R_alloc | apply Kd.R_drewN | apply Kd.R_drew)); exact HO_3.out)); (case aS => exact (below_size (by repeat (first | (with_reducible first | exact HB.out | apply below_alloc | apply pw_below_drewN | apply below_drew1) | exact HB.out)))); (case aL => have := LMc5.out; omega); intro v120 w6 ho hb hg hat; rw [← Ny119.out] at ho; have n0_ := Aside0.mk (hb); have n1_ := Aside0.mk (ho); clear HB; clear HO_3; have HB := n0_; have HO121 := n1_; clear n0_ n1_; clear ho hb hg hat))
          go_ret
          exact ⟨_, by first | rfl | (simp [errW_none, errW_some] <;> rfl) | (simp [*, errW_none, errW_some] <;> rfl), by (with_reducible repeat (first | apply Kd.R_alloc | apply Kd.R_drewN | apply Kd.R_drew)); exact HO121.out, by repeat (first | (with_reducible first | exact HB.out | apply below_alloc | apply pw_below_drewN | apply below_drew1) | exact HB.out)⟩
        · rw [if_neg c5] at H
          exact absurd H (by simp)
def tikref2_Big.l0 : Nat → List Int → Int → Int → Option (Int)
  | 0, _, _, _ => none
  | k + 1, x0, x3, x4 => if x4 < (x0.length : Int) then (if 0 ≤ x4 then (tikref2_Big.l0 k x0 (Go.bits .or .u64 (IntKind.u64.wrap (x3 * 256)) (IntKind.u64.wrap (rd x0 x4))) (wrap64 (x4 + 1))) else (none)) else (some x3)
def tikref2_Big.f (k : Nat) (l0 : List Int) : Option (Int) := tikref2_Big.l0 k l0 0 0
def tikref_Bytes.f (l0 : List Int) (l1 : List Int) : Option (Bool) := some ((strOfNums l0).toList == (strOfNums l1).toList)
set_option maxHeartbeats 8000000 in
set_option maxRecDepth 100000 in
theorem tikref_Bytes.calls (A0 : Option Addr) (c0 : Nat) (l0 : List Int) (A1 : Option Addr) (c1 : Nat) (l1 : List Int) (r : Bool) (w : World) (hr0 : Kd.C (Kd.int .u8) w A0 l0.length l0) (hc0 : l0.length ≤ c0) (hr1 : Kd.C (Kd.int .u8) w A1 l1.length l1) (hc1 : l1.length ≤ c1) (h : tikref_Bytes.f l0 l1 = some r) :
    Calls Try.prog 16 #[.slice A0 l0.length c0, .slice A1 l1.length c1] w fun e w' => e = .returned (.bool r) ∧ Drawn0 w w' := by
  have HR0 := Aside0.mk hr0
  have HC0 := Aside0.mk hc0
  clear hr0 hc0
  have HR1 := Aside0.mk hr1
  have HC1 := Aside0.mk hc1
  clear hr1 hc1
  have H : (some ((strOfNums l0).toList == (strOfNums l1).toList)) = some r := h
  clear h
  obtain rfl := Option.some.inj H
  have hcv3 := Kd.C_string (P := Try.prog) (A := A0) (c := c0) Try.underlying23 Try.underlying5 Try.underlying9 HR0.out
  have hcv4 := Kd.C_string (P := Try.prog) (A := A1) (c := c1) Try.underlying23 Try.underlying5 Try.underlying9 HR1.out
  go_enter Try.func16, Try.ntmps16
  go_wp2
  go_ret
  exact ⟨by first | rfl | (simp; done) | (simp [*]; done), by repeat (first | exact Drawn0.refl _ | apply Drawn0.step)⟩
def tikref_CopyBytes.f (l0 : List Int) : Option (List Int) := (some (([] : List Int) : List Int)).bind fun y123 => (if y123.length + l0.length < 140737488355328 then (some (y123 ++ l0)) else (none))
set_option maxHeartbeats 8000000 in
set_option maxRecDepth 100000 in
theorem tikref_CopyBytes.calls (A0 : Option Addr) (c0 : Nat) (l0 : List Int) (r : List Int) (w : World) (hr0 : Kd.C (Kd.int .u8) w A0 l0.length l0) (hc0 : l0.length ≤ c0) (h : tikref_CopyBytes.f l0 = some r) :
    Calls Try.prog 21 #[.slice A0 l0.length c0] w fun e w' => ∃ v0_ : Value, e = .returned (v0_) ∧ Kd.R (Kd.int .u8) 5 w' w.heap.size (fun _ => True) v0_ r ∧ Below w.heap.size w w' := by
  have HR0 := Aside0.mk hr0
  have HC0 := Aside0.mk hc0
  clear hr0 hc0
  have HB := Aside0.mk (Below.refl w.heap.size w)
  have H : ((some (([] : List Int) : List Int)).bind fun y123 => (if y123.length + l0.length < 140737488355328 then (some (y123 ++ l0)) else (none))) = some r := h
  clear h
  obtain ⟨y123, hy123⟩ : ∃ y_ : List Int, y_ = (([] : List Int)) := ⟨_, rfl⟩
  replace H : (if y123.length + l0.length < 140737488355328 then (some (y123 ++ l0)) else (none)) = some r := by first | (rw [hy123]; with_reducible exact H) | (have H2_ := (Option.bind_some _ _).symm.trans H; rw [hy123]; with_reducible exact H2_) | (have H2_ := (Option.bind_some _ _).symm.trans H; with_reducible exact H2_) | with_reducible exact H | (rw [hy123]; exact H) | exact H
  have Ny123 := Aside0.mk hy123
  clear hy123
  by_cases c2 : y123.length + l0.length < 140737488355328
  · rw [if_pos c2] at H
    have LMc2 := Aside0.mk c2
    clear c2
    obtain ⟨y126, hy126⟩ : ∃ y_ : List Int, y_ = (y123 ++ l0) := ⟨_, rfl⟩
    replace H : (some y126) = some r := by first | (rw [hy126]; with_reducible exact H) | (have H2_ := (Option.bind_some _ _).symm.trans H; rw [hy126]; with_reducible exact H2_) | (have H2_ := (Option.bind_some _ _).symm.trans H; with_reducible exact H2_) | with_reducible exact H | (rw [hy126]; exact H) | exact H
    have Ny126 := Aside0.mk hy126
    clear hy126
    obtain rfl := Option.some.inj H
    go_enter Try.func21, Try.ntmps21
    go_wp2_with (first | ((with_reducible refine gate_dst (N := 3) rfl ?_); refine Kd.R_lit (Kd.int .u8) _ 5 ?hg (N := 3) ?hd (xs := ([] : List Int)) (inner := []) (ok := fun _ => True) (okp := fun _ => True) ?hr ?hp (fun _ hk => hk) trivial (Below.refl _ _) (Nat.le_refl _) (by simp) ?_; (case hd => rfl); (case hg => rfl); (case hr => first | (go_simp; done) | (go_simp; rfl)); (case hp => exact (Reps.none _ _)); intro v124 w3 ho4 hb hg_ hnew_; clear hg_ hnew_; (first | rw [← Ny123.out] at ho4 | (simp only [Int.reduceToNat] at ho4; rw [← Ny123.out] at ho4)); have n0_ := Aside0.mk (Kd.R_lower ho4 (below_size (by repeat (first | (with_reducible first | exact HB.out | apply below_alloc | apply pw_below_drewN | apply below_drew1) | exact HB.out)))); have n1_ := Aside0.mk (below_step (by repeat (first | (with_reducible first | exact HB.out | apply below_alloc | apply pw_below_drewN | apply below_drew1) | exact HB.out)) hb); clear HB; have HO125 := n0_; have HB := n1_; clear n0_ n1_; clear hb ho4) | ((with_reducible refine gate_builtin (b := .append) (xs := #[.tmp 3, .tmp 4]) rfl ?_); at_builtin; refine Kd.R_append_rows (Kd.int .u8) (w0 := w) w.heap.size rfl (.tmp 3) (.tmp 4) 23 5 (.int .u8 0) 1 rfl Try.underlying23 info5 rfl (by decide) (by omega) v124 y123 l0 _ _ _ (fun _ => True) (fun _ => False) rfl rfl ?aO ?aR (fun _ _ h => h) (fun _ h => h.elim) ?aF ?aB ?aS ?aL ?_; (case aR => repeat (first | exact (Kd.C_below HR0.out HB.out) | (with_reducible refine Kd.C_alloc ?_ _) | (with_reducible refine Kd.C_drewN ?_ _) | (with_reducible refine Kd.C_drew ?_))); (case aB => exact (by repeat (first | (with_reducible first | exact HB.out | apply below_alloc | apply pw_below_drewN | apply below_drew1) | exact HB.out))); (case aF => exact (fun _ _ => trivial)); (case aO => exact (by (with_reducible repeat (first | apply Kd.R_alloc | apply Kd.R_drewN | apply Kd.R_drew)); exact HO125.out)); (case aS => exact (below_size (by repeat (first | (with_reducible first | exact HB.out | apply below_alloc | apply pw_below_drewN | apply below_drew1) | exact HB.out)))); (case aL => have := LMc2.out; omega); intro v127 w5 ho hb hg hat; rw [← Ny126.out] at ho; have n0_ := Aside0.mk (hb); have n1_ := Aside0.mk (ho); clear HB; clear HO125; have HB := n0_; have HO128 := n1_; clear n0_ n1_; clear ho hb hg hat))
    go_ret
    exact ⟨_, by first | rfl | (simp [errW_none, errW_some] <;> rfl) | (simp [*, errW_none, errW_some] <;> rfl), by (with_reducible repeat (first | apply Kd.R_alloc | apply Kd.R_drewN | apply Kd.R_drew)); exact HO128.out, by repeat (first | (with_reducible first | exact HB.out | apply below_alloc | apply pw_below_drewN | apply below_drew1) | exact HB.out)⟩
  · rw [if_neg c2] at H
    exact absurd H (by simp)
end Go.Proofs.Ytdklanenmihpdaa.PA
namespace Go.Proofs.Ytdklanenmihpdaa.PA
open Go.RowKit Go.Proofs.YtdklanenmihpdaaW.PrintWords Go.Proofs.YtdklanenmihpdaaW.PrintLast Go.Proofs.YtdklanenmihpdaaW.PrintMore
attribute [local go_sem] max2_int min2_int max_two min_two max_three min_three max_four min_four
open Go.Proofs.Ytdklanenmihpdaa.Hand
set_option linter.unusedVariables false
set_option linter.unusedSimpArgs false
end Go.Proofs.Ytdklanenmihpdaa.PA
namespace Go.Proofs.Ytdklanenmihpdaa.Hand
open Go.RowKit Go.Proofs.YtdklanenmihpdaaW.PrintWords Go.Proofs.YtdklanenmihpdaaW.PrintLast
def rawM (l : List Int) (at_ n : Int) : Except Int Int := if n < 0 then .error 1 else rawL l at_ n
theorem rawM_nz {l : List Int} {p n x : Int} (h : rawM l p n = .error x) : (x != 0) = true := by
  unfold rawM rawL at h
  split at h
  · injection h with h; subst h; rfl
  · split at h
    · injection h with h; subst h; rfl
    · cases h
set_option maxHeartbeats 1000000 in
theorem raw1_any {w : World} {F : Nat → Prop} {g pr pn : Nat} {l : List Int} {at_ e n : Int} (hI : IsRd w F g l at_ e) (h0 : 0 ≤ at_) (h1 : at_ ≤ l.length) (hl : l.length < 140737488355328) (hF : ∀ k, F k → k < w.heap.size)
    (hr : w.heap[pr]? = some (.cells #[.pointer (some ⟨g, 0, none⟩)] 105 (0, 0))) (hm : w.heap[pn]? = some (.cells #[.int .i64 n] 3 (0, 0))) (hb : n ≤ 9223372036854775807) :
    Calls Try.prog 71 #[.pointer (some ⟨pn, 0, none⟩), .pointer (some ⟨pr, 0, none⟩)] w (RdPost (BytesV ((l.drop at_.toNat).take n.toNat)) w.heap.size F g l e w (rawM l at_ n)) := by
  have cr := blk_cell hr 0
  have cm := blk_cell hm 0
  obtain ⟨l', hl'⟩ : ∃ l', (l.drop at_.toNat).take n.toNat = l' := ⟨_, rfl⟩
  rw [hl']
  by_cases hn : n < 0
  · have hr : rawM l at_ n = .error 1 := if_pos hn
    rw [hr]
    have HI := Aside0.mk hI
    clear hI hr hm hl'
    go_enter Try.func71, Try.ntmps71
    go_wp2_with fail
    exact ⟨rfl, rfl, ⟨_, HI.out⟩, Mu.refl _ _⟩
  · have hr : rawM l at_ n = rawL l at_ n := if_neg hn
    rw [hr]
    have h := raw_any (n := n) hI h0 h1 (by omega) hl hF
    rw [hl'] at h
    have H := Aside0.mk h
    have hwn : IntKind.u64.wrap n = n := IntWalk.u64_in _ (by omega)
    have hn' : 0 ≤ n := by omega
    clear hI hr hm h hl' hn
    obtain ⟨R, hR⟩ : ∃ R, rawL l at_ n = R := ⟨_, rfl⟩
    rw [hR] at H ⊢
    clear hR
    go_enter Try.func71, Try.ntmps71
    go_wp2_with fail
    refine H.out.mono ?_
    clear H
    cases R with
    | error x =>
      rintro en w1 ⟨rfl, h⟩
      exact ⟨rfl, rfl, h⟩
    | ok q =>
      rintro en w1 ⟨⟨v, rfl, hv⟩, h⟩
      obtain ⟨A, c, rfl, _⟩ := Kd.R_reads hv
      have HV := Aside0.mk (And.intro hv h)
      clear hv h
      go_wp2_with fail
      go_ret
      exact ⟨⟨_, rfl, HV.out.1⟩, HV.out.2⟩
def rdRaw (l : List Int) (at_ e n : Int) : List Int × Int × Int := if e ≠ 0 then ([], at_, e) else match rawM l at_ n with
  | .ok q => ((l.drop at_.toNat).take n.toNat, q, 0)
  | .error x => ([], at_, x)
def RdBytes (F : Nat → Prop) (g : Nat) (l : List Int) (w : World) (r : List Int × Int × Int) (en : Ending) (w' : World) : Prop :=
  (∃ v, en = .returned v ∧ BytesV r.1 w.heap.size w' v) ∧ IsRd w' F g l r.2.1 r.2.2 ∧ 0 ≤ r.2.1 ∧ r.2.1 ≤ l.length ∧ Mu (· = g) w w'
set_option maxHeartbeats 1000000 in
theorem Raw_any {w : World} {F : Nat → Prop} {g : Nat} {l : List Int} {at_ e n : Int} (hI : IsRd w F g l at_ e) (hF : ∀ k, F k → k < w.heap.size) (h0 : 0 ≤ at_) (h1 : at_ ≤ l.length) (hl : l.length < 140737488355328) (hb : n ≤ 9223372036854775807) :
    Calls Try.prog 64 #[.pointer (some ⟨g, 0, none⟩), .int .i64 n] w (RdBytes F g l w (rdRaw l at_ e n)) := by
  have HI := Aside0.mk hI
  have HF := Aside0.mk hF
  clear hI hF
  obtain ⟨W, hW, b0, b1, hWs, hWb⟩ := two_new w (.cells #[.pointer (some ⟨g, 0, none⟩)] 105) (.cells #[.int .i64 n] 3)
  have HW := Aside0.mk hW
  have B0 := Aside0.mk b0
  have B1 := Aside0.mk b1
  have HWs := Aside0.mk hWs
  have HWb := Aside0.mk hWb
  have hmf : ∀ (fn : Fn) (first cap : Array Value) (w : World), (Instr.makeFunc fn first cap).run Try.prog w = .ok (.func fn first cap) w := fun _ _ _ _ => rfl
  clear hW b0 b1 hWs hWb
  go_enter Try.func64, Try.ntmps64
  go_wp2_with fail
  rw [HW.out]
  have hIW : IsRd W F g l at_ e := HI.out.mu (Mu.of_below HWb.out (fun _ => False)) (fun _ _ h => h)
  refine (triesdB (bytesV_stays ((l.drop at_.toNat).take n.toNat)) (fun b w v h => by obtain ⟨A, c, e, _⟩ := Kd.R_reads h; exact ⟨_, _, _, e⟩) (f := 71) (first := #[]) (cap := #[.pointer (some ⟨w.heap.size + 1, 0, none⟩), .pointer (some ⟨w.heap.size, 0, none⟩)]) (args := #[.pointer (some ⟨w.heap.size + 1, 0, none⟩), .pointer (some ⟨w.heap.size, 0, none⟩)]) rfl (fun w => by kernel_rfl) (rawM l at_ n) (fun x hx => rawM_nz hx) hIW (fun k hk => by rw [HWs.out]; have := HF.out k hk; omega)
    (fun he w1 hb1 => by
      subst he
      have hm1 := Mu.of_below hb1 (fun _ => False)
      exact raw1_any (hIW.mu hm1 (fun _ _ h => h)) h0 h1 hl (fun k hk => by have := HF.out k hk; have := hb1.size; have := HWs.out; omega) (hm1.heap B0.out (fun h => h)) (hm1.heap B1.out (fun h => h)) hb)).mono ?_
  rintro en w2 ⟨hm, hcase⟩
  have hm2 : Mu (· = g) w w2 := (Mu.of_below HWb.out _).trans hm
  have fin : ∃ a n' c, en = .returned (.slice a n' c) ∧ RdBytes F g l w (rdRaw l at_ e n) (.returned (.slice a n' c)) w2 := by
    rcases hcase with ⟨h, rfl, hI2⟩ | ⟨rfl, p', hp', ⟨v, rfl, hres⟩, hI2, q0, q1⟩ | ⟨rfl, x, hx, rfl, hI2⟩
    · refine ⟨_, _, _, rfl, ?_⟩
      unfold rdRaw
      rw [if_pos h]
      exact ⟨⟨_, rfl, Kd.R_nil _ _ _ _ _⟩, hI2, h0, h1, hm2⟩
    · obtain ⟨A, c, rfl, _⟩ := Kd.R_reads hres
      refine ⟨_, _, _, rfl, ?_⟩
      unfold rdRaw
      rw [if_neg (by simp), hp']
      exact ⟨⟨_, rfl, Kd.R_lower hres (by rw [HWs.out]; omega)⟩, hI2, q0, q1, hm2⟩
    · refine ⟨_, _, _, rfl, ?_⟩
      unfold rdRaw
      rw [if_neg (by simp), hx]
      exact ⟨⟨_, rfl, Kd.R_nil _ _ _ _ _⟩, hI2, h0, h1, hm2⟩
  obtain ⟨a', n', c', rfl, hfin⟩ := fin
  have HFin := Aside0.mk hfin
  clear hfin hcase hm hm2 hIW
  go_wp2_with fail
  go_ret
  exact HFin.out
set_option maxHeartbeats 1000000 in
theorem NewReader_any {w : World} {A : Option Addr} {c : Nat} {l : List Int} (hC : Kd.C (Kd.int .u8) w A l.length l) (hc : l.length ≤ c) (hl : l.length < 140737488355328) :
    Calls Try.prog 61 #[.slice A l.length c] w fun en w' => ∃ g, en = .returned (.pointer (some ⟨g, 0, none⟩)) ∧ w.heap.size ≤ g ∧ IsRd w' (fun k => w.heap.size ≤ k ∧ k < w'.heap.size) g l 0 0 ∧ Below w.heap.size w w' := by
  have HC := Aside0.mk (clone_any hC hc hl)
  clear hC
  go_enter Try.func61, Try.ntmps61
  go_wp2_with fail
  refine HC.out.mono ?_
  rintro en w1 ⟨v, rfl, hr, hb⟩
  obtain ⟨A', c', rfl, hc', hC'⟩ := Kd.R_reads hr
  have HR := Aside0.mk hr
  have HB := Aside0.mk hb
  have HC' := Aside0.mk hC'
  clear hr hb hC' HC
  go_wp2_with fail
  go_ret
  have hsz : (w1.alloc (Obj.cells #[.slice A' l.length c', .int .i64 0, .int .i64 0] 109)).heap.size = w1.heap.size + 1 := by simp
  refine ⟨_, rfl, HB.out.size, ⟨A', c', ⟨HB.out.size, by rw [hsz]; omega⟩, alloc_new _ _, hc', Kd.C_alloc HC'.out _, fun ad ea hn => ?_⟩, below_alloc HB.out _⟩
  subst ea
  have hbd := Kd.R_bound HR.out
  have h1 := hbd.1 ad.block (by
    obtain ⟨inner, ho⟩ := Kd.R_own HR.out
    rcases ho.2 with ⟨h, _⟩ | ⟨g, cap, cur, h, hg, hh, r⟩
    · simp at h
    · simp at h
      obtain ⟨rfl, _⟩ := h
      simp [Value.ownBlock])
  exact ⟨⟨h1.2.1, by rw [hsz]; omega⟩, by omega⟩
end Go.Proofs.Ytdklanenmihpdaa.Hand
namespace Go.Proofs.Ytdklanenmihpdaa.Hand
open Go.RowKit Go.Proofs.YtdklanenmihpdaaW.PrintWords Go.Proofs.YtdklanenmihpdaaW.PrintLast Go.Proofs.YtdklanenmihpdaaW.PrintMore
def rhoJ : Shelf.Ren where
  f := fun x => match x with | 14 => 33 | 15 => 56 | x => x
  t := fun x => match x with | 0 => 0 | 3 => 3 | 4 => 4 | 5 => 5 | 9 => 9 | 20 => 20 | 22 => 23 | 26 => 48 | x => x
  g := fun x => x
theorem laysJ : SlLaysJ.n14 Try.prog rhoJ := by
  constructor
  all_goals first | kernel_rfl | (intro w; kernel_rfl) | (intro w; rfl)
def byteB (x : Int) : Bool := decide (0 ≤ x) && decide (x < 256)
def bytes_Join.f (l0 : List (List Int)) (l1 : List Int) : Option (List Int) :=
  if 2 ≤ l0.length ∧ l0.length ≤ 140737488355328 ∧ l1 = [] ∧ l0.flatten.all byteB = true ∧ l0.flatten.length ≤ 140737488355328 then some l0.flatten else none
theorem byteB_iff {x : Int} : byteB x = true ↔ 0 ≤ x ∧ x < 256 := by unfold byteB; simp
theorem ofNat_inj {x y : Int} (hx : 0 ≤ x ∧ x < 256) (hy : 0 ≤ y ∧ y < 256) (h : UInt8.ofNat x.toNat = UInt8.ofNat y.toNat) : x = y := by
  have h := congrArg UInt8.toNat h
  simp only [UInt8.toNat_ofNat'] at h
  rw [Nat.mod_eq_of_lt (by omega), Nat.mod_eq_of_lt (by omega)] at h
  omega
theorem bytesOf_inj : ∀ {a b : List Int}, (∀ x ∈ a, 0 ≤ x ∧ x < 256) → (∀ x ∈ b, 0 ≤ x ∧ x < 256) → Lib.bytesOf a = Lib.bytesOf b → a = b
  | [], [], _, _, _ => rfl
  | [], _ :: _, _, _, h => by simp [Lib.bytesOf] at h
  | _ :: _, [], _, _, h => by simp [Lib.bytesOf] at h
  | x :: a, y :: b, ha, hb, h => by
    simp only [Lib.bytesOf, List.map_cons, List.cons.injEq] at h
    rw [ofNat_inj (ha x (by simp)) (hb y (by simp)) h.1, bytesOf_inj (fun z hz => ha z (by simp [hz])) (fun z hz => hb z (by simp [hz])) h.2]
theorem holds_of_C {w : World} {A : Option Addr} {c : Nat} {l : List Int} (hC : Kd.C (Kd.int .u8) w A l.length l) (hb : ∀ x ∈ l, 0 ≤ x ∧ x < 256) : Lib.HoldsBytes w (.slice A l.length c) (Lib.bytesOf l) := by
  refine ⟨A, c, by simp [Lib.bytesOf], ?_, ?_⟩
  · rintro rfl
    cases l with
    | nil => rfl
    | cons x l => obtain ⟨ad, e, _⟩ := hC.2.2 (by simp); cases e
  · rintro a rfl i x hx
    have hi : i < l.length := by
      have := (List.getElem?_eq_some_iff.1 hx).1
      simpa [Lib.bytesOf] using this
    obtain ⟨ad, e, hc⟩ := hC.2.2 (by omega)
    obtain rfl := Option.some.inj e
    obtain ⟨c1, _, hk, hcell⟩ := hc i l[i] (List.getElem?_eq_getElem hi)
    have hk' : c1 = [.int .u8 l[i]] := hk
    subst hk'
    have h1 := hcell 0 _ rfl
    have h1' : w.cell? (a.add i) = some (.int .u8 l[i]) := by simpa [Kd.int, Kd.scalar] using h1
    rw [h1']
    have hx' : UInt8.ofNat l[i].toNat = x := by simpa [Lib.bytesOf, hi] using hx
    have hr := hb l[i] (List.getElem_mem hi)
    rw [← hx', UInt8.toNat_ofNat', Nat.mod_eq_of_lt (by omega), Int.toNat_of_nonneg hr.1]
theorem chosen {P : Nat → Value → Prop} (n : Nat) (h : ∀ j, j < n → ∃ v, P j v) : ∃ vs : List Value, vs.length = n ∧ ∀ (j : Nat) v, vs[j]? = some v → P j v := by
  induction n with
  | zero => exact ⟨[], rfl, by simp⟩
  | succ n ih =>
    obtain ⟨vs, hl, hv⟩ := ih (fun j hj => h j (by omega))
    obtain ⟨v, hP⟩ := h n (by omega)
    refine ⟨vs ++ [v], by simp [hl], fun j u hu => ?_⟩
    by_cases hj : j < vs.length
    · exact hv j u (by rwa [List.getElem?_append_left hj] at hu)
    · rw [List.getElem?_append_right (by omega)] at hu
      have : j - vs.length = 0 := by
        rcases Nat.eq_zero_or_pos (j - vs.length) with h | h
        · exact h
        · rw [List.getElem?_eq_none (by simp; omega)] at hu; cases hu
      rw [this] at hu
      obtain rfl : v = u := by simpa using hu
      obtain rfl : j = n := by omega
      exact hP
theorem parts_of_C {w : World} {ad : Addr} {l0 : List (List Int)} (hC : Kd.C (Kd.slice 5 (Kd.int .u8)) w (some ad) l0.length l0) (hp : 0 < l0.length) (hb : ∀ l ∈ l0, ∀ x ∈ l, 0 ≤ x ∧ x < 256) : ∃ vs, Lib.PartsAt w ad vs (l0.map Lib.bytesOf) := by
  obtain ⟨ad', e, hc⟩ := hC.2.2 hp
  obtain rfl := Option.some.inj e
  obtain ⟨vs, hl, hv⟩ := chosen (P := fun j v => w.cell? (ad.add j) = some v ∧ Lib.HoldsBytes w v (Lib.bytesOf (l0.getD j []))) l0.length (fun j hj => by
    obtain ⟨c, _, ⟨A, cp, rfl, hcp, hCj⟩, hcell⟩ := hc j l0[j] (List.getElem?_eq_getElem hj)
    have h1 := hcell 0 _ rfl
    refine ⟨_, by simpa [Kd.slice] using h1, ?_⟩
    rw [List.getD_eq_getElem?_getD, List.getElem?_eq_getElem hj]
    exact holds_of_C hCj (hb _ (List.getElem_mem hj)))
  refine ⟨vs, by simp [hl], fun i v hi => (hv i v hi).1, fun i v l hi hl2 => ?_⟩
  have h2 := (hv i v hi).2
  rw [List.getElem?_map] at hl2
  rw [List.getD_eq_getElem?_getD] at h2
  cases hx : l0[i]? with
  | none => rw [hx] at hl2; cases hl2
  | some y => rw [hx] at hl2 h2; obtain rfl : Lib.bytesOf y = l := by simpa using hl2
              exact h2
theorem bytesOf_flatten : ∀ l0 : List (List Int), (l0.map Lib.bytesOf).flatten = Lib.bytesOf l0.flatten
  | [] => rfl
  | x :: l => by simp only [List.map_cons, List.flatten_cons, bytesOf_flatten l]; simp [Lib.bytesOf]
theorem join_flat (ls : List (List UInt8)) : Lib.join ls [] = ls.flatten := by
  cases ls with
  | nil => rfl
  | cons x r => rw [Lib.join_cons]; simp [Lib.joinTail]
theorem V_of_fresh {b : Nat} {w : World} {v : Value} {l : List UInt8} {xs : List Int} (h : Lib.FreshBytes b w v l) (hl : l = Lib.bytesOf xs) (hx : ∀ x ∈ xs, 0 ≤ x ∧ x < 256) : Kd.V (Kd.int .u8) 5 w b (fun k => True ∧ b ≤ k ∧ k < w.heap.size) v xs := by
  obtain ⟨g, cap, zs, rfl, hg, hcap, hmax, hz, hzr, htake, hcell, hfz⟩ := h
  have hlen : l.length = xs.length := by rw [hl]; simp [Lib.bytesOf]
  have hzx : zs.take l.length = xs := bytesOf_inj (fun x hx => hzr x (List.mem_of_mem_take hx)) hx (by rw [htake, hl])
  refine ⟨some ⟨g, 0, none⟩, cap, by rw [hlen], by omega, fun W' hW => ⟨rfl, by unfold maxLen at hmax; omega, fun hn => ⟨_, rfl, fun j p hj => ⟨[.int .u8 p], rfl, rfl, fun i u hu => ?_⟩⟩⟩⟩
  have hi : i = 0 := by
    rcases Nat.eq_zero_or_pos i with h | h
    · exact h
    · rw [List.getElem?_eq_none (by simp; omega)] at hu; cases hu
  subst hi
  obtain rfl : .int .u8 p = u := by simpa using hu
  have hjl : j < xs.length := (List.getElem?_eq_some_iff.1 hj).1
  have h0 := hcell 0 (by omega)
  have hlt := World.block_lt_of_cell? _ _ h0
  have hcj := hcell j (by omega)
  have e1 : (⟨g, 0, none⟩ : Addr).add (j * (Kd.int .u8).sz + 0) = ⟨g, j, none⟩ := by rw [Lib.add_plain2]; simp [Kd.int, Kd.scalar]
  rw [e1, World.cell?_of_block (w := w) (hW g ⟨trivial, hg, hlt⟩ hlt), hcj]
  have hp : zs[j]? = some p := by
    have : (zs.take l.length)[j]? = some p := by rw [hzx]; exact hj
    rwa [List.getElem?_take_of_lt (by omega)] at this
  rw [List.getD_eq_getElem?_getD, hp]; rfl
theorem bytes_Join.calls (A0 : Option Addr) (c0 : Nat) (l0 : List (List Int)) (A1 : Option Addr) (c1 : Nat) (l1 : List Int) (r : List Int) (w : World) (hr0 : Kd.C (Kd.slice 5 (Kd.int .u8)) w A0 l0.length l0) (hc0 : l0.length ≤ c0) (hr1 : Kd.C (Kd.int .u8) w A1 l1.length l1) (hc1 : l1.length ≤ c1) (h : bytes_Join.f l0 l1 = some r)
    (hsp : 0 < l0.length → ∀ ad, A0 = some ad → ad.spot = none) :
    Calls Try.prog 33 #[.slice A0 l0.length c0, .slice A1 l1.length c1] w fun e w' => ∃ v0_ : Value, e = .returned (v0_) ∧ Kd.V (Kd.int .u8) 5 w' w.heap.size (fun k_ => True ∧ w.heap.size ≤ k_ ∧ k_ < w'.heap.size) v0_ r ∧ Below w.heap.size w w' := by
  unfold bytes_Join.f at h
  split at h
  case isFalse => cases h
  rename_i hq
  obtain ⟨q1, q2, rfl, q4, q5⟩ := hq
  obtain rfl := Option.some.inj h
  have hb : ∀ x ∈ l0.flatten, 0 ≤ x ∧ x < 256 := fun x hx => byteB_iff.1 (List.all_eq_true.1 q4 x hx)
  have hb2 : ∀ l ∈ l0, ∀ x ∈ l, 0 ≤ x ∧ x < 256 := fun l hl x hx => hb x (List.mem_flatten.2 ⟨l, hl, hx⟩)
  obtain ⟨ad, rfl, _⟩ := hr0.2.2 (by omega)
  have hs := hsp (by omega) ad rfl
  obtain ⟨b, o, sp⟩ := ad
  obtain rfl : sp = none := hs
  obtain ⟨vs, hP⟩ := parts_of_C hr0 (by omega) hb2
  have hlens : Lib.lens (l0.map Lib.bytesOf) = l0.flatten.length := by
    unfold Lib.lens
    rw [List.length_flatten, List.map_map]
    congr 1
    apply List.map_congr_left
    intro x _
    simp [Lib.bytesOf]
  refine (Any.bytes_Join_many laysJ b o l0.length c0 vs (l0.map Lib.bytesOf) (.slice A1 0 c1) [] w (by simp) q1 hP hc0 ⟨A1, c1, rfl, fun _ => rfl, by simp⟩ q2 (by rw [hlens]; simp only [List.length_nil]; omega)).mono ?_
  rintro e w' ⟨v', rfl, hf, hbl⟩
  exact ⟨v', rfl, V_of_fresh hf (by rw [join_flat, bytesOf_flatten]) hb, hbl⟩
end Go.Proofs.Ytdklanenmihpdaa.Hand

namespace Go.Proofs.Ytdklanenmihpdaa.Hand
open Go.RowKit Go.Proofs.YtdklanenmihpdaaW.PrintWords Go.Proofs.YtdklanenmihpdaaW.PrintLast Go.Proofs.YtdklanenmihpdaaW.PrintMore Go.Proofs.Ytdklanenmihpdaa.PA
theorem andNot128 (c : Int) (h0 : 0 ≤ c) (h1 : c < 256) : Go.bits .andNot .u8 c 128 = c % 128 := by
  rw [u8_andNot c 128 h0 h1 (by omega) (by omega)]
  rw [show (255 - (128 : Int).toNat) = 2 ^ 7 - 1 from rfl, Nat.and_two_pow_sub_one_eq_mod]
  omega
theorem and127 (c : Int) (h0 : 0 ≤ c) (h1 : c < 18446744073709551616) : Go.bits .and .u64 c 127 = c % 128 := by
  rw [u64_and c 127 h0 h1 (by omega) (by omega)]
  rw [show ((127 : Int).toNat) = 2 ^ 7 - 1 from rfl, Nat.and_two_pow_sub_one_eq_mod]
  omega
theorem or_high (n m s : Nat) (hn : n < 2 ^ s) : n ||| (m * 2 ^ s) = n + m * 2 ^ s := by
  have := Nat.shiftLeft_add_eq_or_of_lt hn m
  rw [Nat.shiftLeft_eq] at this
  rw [Nat.or_comm, ← this, Nat.add_comm]
theorem u8_or128 (a : Int) (h0 : 0 ≤ a) : Go.bits .or .u8 (a % 256) 128 = a % 128 + 128 := by
  rw [u8_or (a % 256) 128 (by omega) (by omega) (by omega) (by omega)]
  have h : (a % 256).toNat ||| 128 = (a % 256).toNat % 128 + 128 := by
    have h1 : (a % 256).toNat < 256 := by omega
    generalize (a % 256).toNat = x at *
    have : ∀ y : Fin 256, y.val ||| 128 = y.val % 128 + 128 := by decide +kernel
    exact this ⟨x, h1⟩
  have h2 : (128 : Int).toNat = 128 := rfl
  rw [h2, h]
  omega
theorem u64_or128 (a : Int) (h0 : 0 ≤ a) (h1 : a < 18446744073709551616) : Go.bits .or .u64 (Go.bits .and .u64 a 127) 128 % 256 = a % 128 + 128 := by
  rw [and127 a h0 h1, u64_or (a % 128) 128 (by omega) (by omega) (by omega) (by omega)]
  have h2 : (128 : Int).toNat = 1 * 2 ^ 7 := rfl
  rw [h2, or_high _ 1 7 (by omega)]
  omega
theorem vref_eq (n c : Int) (i : Nat) (hc0 : 0 ≤ c) (hc : c < 256) (hi : i ≤ 9) :
    Go.bits .or .u64 n (shl .u64 (Go.bits .and .u64 (IntKind.u64.wrap c) 127) (IntKind.u64.wrap (wrap64 (7 * (i : Int))))) = vstep n c i := by
  have hw : IntKind.u64.wrap c = c := IntWalk.u64_in _ (by omega)
  have hw2 : wrap64 (7 * (i : Int)) = 7 * i := IntWalk.wrap64_in _ (by omega)
  have hw3 : IntKind.u64.wrap (7 * (i : Int)) = 7 * i := IntWalk.u64_in _ (by omega)
  unfold vstep shl
  rw [hw, hw2, hw3, and127 c hc0 (by omega), andNot128 c hc0 hc, IntWalk.u64_in (c % 128) (by omega)]
  have : min (7 * (i : Int)).toNat IntKind.u64.bits = 7 * i := by
    have : IntKind.u64.bits = 64 := rfl
    rw [this]; omega
  rw [this]
def Bytes255 (l : List Int) : Prop := ∀ x ∈ l, 0 ≤ x ∧ x < 256
theorem rd_255 {l : List Int} (h : Bytes255 l) (i : Int) : 0 ≤ rd l i ∧ rd l i < 256 := by
  unfold rd
  rw [List.getD_eq_getElem?_getD]
  rcases Nat.lt_or_ge i.toNat l.length with h1 | h1
  · rw [List.getElem?_eq_getElem h1]; exact h _ (List.getElem_mem h1)
  · rw [List.getElem?_eq_none h1]; simp
end Go.Proofs.Ytdklanenmihpdaa.Hand
namespace Go.Proofs.Ytdklanenmihpdaa.Hand
open Go.RowKit Go.Proofs.YtdklanenmihpdaaW.PrintWords Go.Proofs.YtdklanenmihpdaaW.PrintLast Go.Proofs.YtdklanenmihpdaaW.PrintMore Go.Proofs.Ytdklanenmihpdaa.PA
theorem numL_succ (l : List Int) (d i : Nat) (n at_ c : Int) (hc : rd l at_ = c) : numL l (d + 1) i n at_ = if at_ = l.length then .error 3 else if (i = 9 ∧ c > 1) ∨ (c = 0 ∧ 0 < i) then .error 2 else
    if c < 128 then .ok (vstep n c i, at_ + 1) else numL l d (i + 1) (vstep n c i) (at_ + 1) := by subst hc; rfl
theorem ref_step (l : List Int) (k i : Nat) (at_ n c : Int) (hc : rd l (at_ + i) = c) (hc0 : 0 ≤ c) (hc1 : c < 256) (a1 : -9223372036854775808 ≤ at_ + (i : Int) ∧ at_ + (i : Int) ≤ 9223372036854775806) (hi : i ≤ 9) (h0 : 0 ≤ at_) (hin : at_ + (i : Int) < l.length) :
    tikref2_Get.l0 (k + 1 + 1) l at_ n (i : Int) = if i = 9 ∧ c > 1 then some (0, 0, 2) else if c < 128 then (if c = 0 ∧ 0 < i then some (0, 0, 2) else some (vstep n c i, at_ + i + 1, 0)) else tikref2_Get.l0 k l at_ (vstep n c i) ((i + 1 : Nat) : Int) := by
  have hv := vref_eq n c i hc0 hc1 hi
  rw [IntWalk.u64_in c (by omega)] at hv
  have h7 : wrap64 (7 * (i : Int)) = 7 * i := IntWalk.wrap64_in _ (by omega)
  have h8 : IntKind.u64.wrap (7 * (i : Int)) = 7 * i := IntWalk.u64_in _ (by omega)
  rw [h7, h8] at hv
  have t1 : (i : Int) < 10 := by omega
  have t2 : ¬ (at_ + (i : Int) ≥ l.length) := by omega
  have t3 : 0 ≤ at_ + (i : Int) := by omega
  have t4 : 0 ≤ 7 * (i : Int) := by omega
  have e1 : (i : Int) + 1 = ((i + 1 : Nat) : Int) := by omega
  have t5 : ((i : Int) = 9) ↔ (i = 9) := by omega
  have t6 : ((i : Int) > 0) ↔ (0 < i) := by omega
  have w1 : wrap64 (at_ + (i : Int)) = at_ + i := IntWalk.wrap64_in _ (by omega)
  have w2 : wrap64 (at_ + (i : Int) + 1) = at_ + i + 1 := IntWalk.wrap64_in _ (by omega)
  have w3 : wrap64 ((i : Int) + 1) = (i : Int) + 1 := IntWalk.wrap64_in _ (by omega)
  have w4 : IntKind.u64.wrap c = c := IntWalk.u64_in _ (by omega)
  rw [tikref2_Get.l0, w1, hc, w4, if_pos t1, if_neg t2, if_pos t3, if_pos hin]
  have j : ∀ b : Bool, tikref2_Get.j2 (k + 1) l at_ n i c b = if b = true then some (0, 0, 2) else if c < 128 then (if c = 0 ∧ 0 < i then some (0, 0, 2) else some (vstep n c i, at_ + i + 1, 0)) else tikref2_Get.l0 k l at_ (vstep n c i) ((i + 1 : Nat) : Int) := by
    intro b
    rw [tikref2_Get.j2, w1, w2, h7, h8, hv, w3, if_pos t4, e1]
    cases b
    · refine (if_neg (by simp)).trans (Eq.trans ?_ (if_neg (by simp)).symm)
      by_cases q : c < 128
      · refine (if_pos q).trans (Eq.trans ?_ (if_pos q).symm)
        by_cases hz : c = 0
        · refine (if_pos hz).trans ?_
          by_cases hi0 : 0 < i
          · exact (if_pos (t6.2 hi0)).trans (if_pos ⟨hz, hi0⟩).symm
          · exact (if_neg (fun h => hi0 (t6.1 h))).trans (if_neg (fun h => hi0 h.2)).symm
        · exact (if_neg hz).trans (if_neg (fun h => hz h.1)).symm
      · exact (if_neg q).trans (if_neg q).symm
    · exact (if_pos rfl).trans (if_pos rfl).symm
  by_cases h9 : i = 9
  · refine (if_pos (t5.2 h9)).trans ((j _).trans ?_)
    by_cases hc9 : c > 1
    · exact (if_pos (decide_eq_true hc9)).trans (if_pos ⟨h9, hc9⟩).symm
    · exact (if_neg (by simpa using hc9)).trans (if_neg (fun h => hc9 h.2)).symm
  · exact (if_neg (fun h => h9 (t5.1 h))).trans ((j _).trans ((if_neg (by simp)).trans (if_neg (fun h => h9 h.1)).symm))
theorem ref_end (l : List Int) (k i : Nat) (at_ n : Int) (a1 : -9223372036854775808 ≤ at_ + (i : Int) ∧ at_ + (i : Int) ≤ 9223372036854775806) (hi : i ≤ 9) (hin : at_ + (i : Int) = l.length) :
    tikref2_Get.l0 (k + 1) l at_ n (i : Int) = some (0, 0, 3) := by
  have t1 : (i : Int) < 10 := by omega
  have t2 : at_ + (i : Int) ≥ l.length := by omega
  have w1 : wrap64 (at_ + (i : Int)) = at_ + i := IntWalk.wrap64_in _ (by omega)
  rw [tikref2_Get.l0, w1, if_pos t1, if_pos t2]
theorem ref_over (l : List Int) (k : Nat) (at_ n : Int) : tikref2_Get.l0 (k + 1) l at_ n ((10 : Nat) : Int) = some (0, 0, 2) := by
  rw [tikref2_Get.l0, if_neg (by omega)]
theorem ref_l0 (l : List Int) (hl : l.length ≤ 9223372036854775000) (hb : Bytes255 l) (at_ : Int) (h0 : 0 ≤ at_) :
    ∀ (d i k : Nat) (n : Int), i + d = 10 → 2 * d < k → at_ + (i : Int) ≤ l.length → tikref2_Get.l0 k l at_ n (i : Int) = some (numOut (numL l d i n (at_ + i))) := by
  intro d
  induction d with
  | zero =>
    intro i k n hi hk _
    obtain ⟨k, rfl⟩ : ∃ m, k = m + 1 := ⟨k - 1, by omega⟩
    obtain rfl : i = 10 := by omega
    rw [ref_over]; rfl
  | succ d ih =>
    intro i k n hi hk h1
    obtain ⟨k, rfl⟩ : ∃ m, k = m + 1 + 1 := ⟨k - 2, by omega⟩
    have a1 : -9223372036854775808 ≤ at_ + (i : Int) ∧ at_ + (i : Int) ≤ 9223372036854775806 := by omega
    have hi9 : i ≤ 9 := by omega
    obtain ⟨c, hc⟩ : ∃ c, rd l (at_ + i) = c := ⟨_, rfl⟩
    have hb2 := rd_255 hb (at_ + i)
    rw [hc] at hb2
    rw [numL_succ l d i n (at_ + i) c hc]
    by_cases hp : at_ + (i : Int) = l.length
    · rw [ref_end l (k + 1) i at_ n a1 hi9 hp, if_pos hp]; rfl
    · have hin : at_ + (i : Int) < l.length := by clear hc; omega
      rw [ref_step l k i at_ n c hc hb2.1 hb2.2 a1 hi9 h0 hin, if_neg hp]
      have e : at_ + ((i + 1 : Nat) : Int) = at_ + i + 1 := by clear hc; omega
      have hih := ih (i + 1) k (vstep n c i) (by clear hc; omega) (by clear hc; omega) (by clear hc; omega)
      rw [e] at hih
      by_cases q1 : i = 9 ∧ c > 1
      · rw [if_pos q1, if_pos (.inl q1)]; rfl
      · rw [if_neg q1]
        by_cases q2 : c = 0 ∧ 0 < i
        · rw [if_pos (show c < 128 by have := q2.1; clear hc; omega), if_pos q2, if_pos (.inr q2)]; rfl
        · have q4 : ¬ ((i = 9 ∧ c > 1) ∨ (c = 0 ∧ 0 < i)) := fun h => h.elim q1 q2
          rw [if_neg q4]
          by_cases q3 : c < 128
          · refine (if_pos q3).trans ((if_neg q2).trans ?_)
            rw [if_pos q3]; rfl
          · refine (if_neg q3).trans (hih.trans ?_)
            rw [if_neg q3]
theorem refGet_any (l : List Int) (hl : l.length ≤ 9223372036854775000) (hb : Bytes255 l) (a : Int) (k : Nat) (hk : 30 ≤ k) : tikref2_Get.f k l a = some (getV l a) := by
  obtain ⟨k, rfl⟩ : ∃ m, k = m + 1 := ⟨k - 1, by omega⟩
  unfold tikref2_Get.f getV
  simp only [tikref2_Get.j0]
  by_cases h0 : a < 0
  · rw [if_pos h0, if_pos h0]; rfl
  · rw [if_neg h0, if_neg h0]
    by_cases h1 : (l.length : Int) < a
    · rw [if_pos h1, if_pos (decide_eq_true h1)]
    · rw [if_neg h1, if_neg (by simpa using h1)]
      have := ref_l0 l hl hb a (by omega) 10 0 k 0 (by omega) (by omega) (by omega)
      simpa using this
end Go.Proofs.Ytdklanenmihpdaa.Hand
namespace Go.Proofs.Ytdklanenmihpdaa.Hand
open Go.RowKit Go.Proofs.YtdklanenmihpdaaW.PrintWords Go.Proofs.YtdklanenmihpdaaW.PrintLast Go.Proofs.YtdklanenmihpdaaW.PrintMore Go.Proofs.Ytdklanenmihpdaa.PA
def varL : Nat → Int → List Int
  | 0, a => [a % 256]
  | d + 1, a => if a ≥ 128 then (a % 128 + 128) :: varL d (a / 128) else [a % 256]
theorem var_l0 : ∀ (d k : Nat) (a : Int) (x : List Int), 0 ≤ a → a < 18446744073709551616 → a < 128 * 128 ^ d → x.length + d < 140737488355328 → wire_Var.l0 (k + d + 1) a x = some (x ++ varL d a) ∧ tikref2_Var.l0 (k + d + 1) a x = some (x ++ varL d a) := by
  intro d
  induction d with
  | zero =>
    intro k a x h0 h1 h2 hl
    have q1 : ¬ a ≥ 128 := by omega
    have q2 : ¬ a > 127 := by omega
    have q3 : x.length < 140737488355328 := by omega
    constructor
    · rw [wire_Var.l0, if_neg q1, if_pos q3]; rfl
    · rw [tikref2_Var.l0, if_neg q2, if_pos q3]; rfl
  | succ d ih =>
    intro k a x h0 h1 h2 hl
    have q3 : x.length < 140737488355328 := by omega
    by_cases q1 : a ≥ 128
    · have q2 : a > 127 := by omega
      have h3 : a / 128 < 128 * 128 ^ d := by
        rw [Int.pow_succ] at h2
        omega
      have e1 : varL (d + 1) a = (a % 128 + 128) :: varL d (a / 128) := if_pos q1
      have := ih k (a / 128) (x ++ [a % 128 + 128]) (by omega) (by omega) h3 (by simp; omega)
      rw [show x ++ [a % 128 + 128] ++ varL d (a / 128) = x ++ varL (d + 1) a by rw [e1]; simp] at this
      rw [show k + (d + 1) + 1 = (k + d + 1) + 1 by omega]
      constructor
      · rw [wire_Var.l0, if_pos q1, if_pos q3, u8_or128 a h0]; exact this.1
      · rw [tikref2_Var.l0, if_pos q2, if_pos q3, u64_or128 a h0 h1]; exact this.2
    · have q2 : ¬ a > 127 := by omega
      have e1 : varL (d + 1) a = [a % 256] := if_neg q1
      rw [show k + (d + 1) + 1 = (k + d + 1) + 1 by omega, e1]
      constructor
      · rw [wire_Var.l0, if_neg q1, if_pos q3]
      · rw [tikref2_Var.l0, if_neg q2, if_pos q3]
theorem wireVar_any (k : Nat) (hk : 10 ≤ k) (a : Int) (h0 : 0 ≤ a) (h1 : a < 18446744073709551616) : wire_Var.f k a = some (varL 9 a) := by
  obtain ⟨k, rfl⟩ : ∃ m, k = m + 9 + 1 := ⟨k - 10, by omega⟩
  exact (var_l0 9 k a [] h0 h1 (by simp only [Int.reducePow, Int.reduceMul]; omega) (by simp)).1
theorem refVar_any (k : Nat) (hk : 10 ≤ k) (a : Int) (h0 : 0 ≤ a) (h1 : a < 18446744073709551616) : tikref2_Var.f k a = some (varL 9 a) := by
  obtain ⟨k, rfl⟩ : ∃ m, k = m + 9 + 1 := ⟨k - 10, by omega⟩
  exact (var_l0 9 k a [] h0 h1 (by simp only [Int.reducePow, Int.reduceMul]; omega) (by simp)).2
end Go.Proofs.Ytdklanenmihpdaa.Hand
namespace Go.Proofs.Ytdklanenmihpdaa.Hand
open Go.RowKit Go.Proofs.YtdklanenmihpdaaW.PrintWords Go.Proofs.YtdklanenmihpdaaW.PrintLast Go.Proofs.YtdklanenmihpdaaW.PrintMore Go.Proofs.Ytdklanenmihpdaa.PA
theorem varL_front : ∀ (d : Nat) (a : Int), 0 ≤ a → a < 128 * 128 ^ d → ∃ F c, varL d a = F ++ [c] ∧ (∀ x ∈ F, 128 ≤ x ∧ x < 256) ∧ 0 ≤ c ∧ c < 128 ∧ F.length ≤ d
  | 0, a, h0, h1 => ⟨[], a % 256, rfl, by simp, by omega, by omega, by simp⟩
  | d + 1, a, h0, h1 => by
    by_cases q : a ≥ 128
    · obtain ⟨F, c, e, hF, c0, c1, hl⟩ := varL_front d (a / 128) (by omega) (by rw [Int.pow_succ] at h1; omega)
      refine ⟨(a % 128 + 128) :: F, c, ?_, ?_, c0, c1, by simp; omega⟩
      · show varL (d + 1) a = _
        rw [varL, if_pos q, e]; rfl
      · intro x hx
        rcases List.mem_cons.1 hx with rfl | hx
        · omega
        · exact hF x hx
    · exact ⟨[], a % 256, by rw [varL, if_neg q]; rfl, by simp, by omega, by omega, by simp⟩
end Go.Proofs.Ytdklanenmihpdaa.Hand
namespace Go.Proofs.Ytdklanenmihpdaa.Hand
open Go.RowKit Go.Proofs.YtdklanenmihpdaaW.PrintWords Go.Proofs.YtdklanenmihpdaaW.PrintLast Go.Proofs.YtdklanenmihpdaaW.PrintMore Go.Proofs.Ytdklanenmihpdaa.PA Go.Proofs.Ytdklanenmihpdaa.Chunks
def segN (l : List Int) (k : Nat) : List Int := (l.drop (256 * k)).take 256
def segsL (l : List Int) : List (List Int) := (List.range (nch l.length)).map (segN l)
def piecesL (l : List Int) : List (List Int) := if l = [] then [[]] else segsL l
def partL (id : Int) (i m : Nat) (p : List Int) : List Int := varL 9 id ++ (varL 9 (i : Int) ++ (varL 9 (m : Int) ++ p))
def cutOf (id : Int) (ps : List (List Int)) : List (List Int) := (List.range ps.length).map fun i => partL id i ps.length (ps.getD i [])
def cutL (id : Int) (l : List Int) : List (List Int) := cutOf id (piecesL l)
theorem segN_len (l : List Int) (k : Nat) : (segN l k).length = chLen l.length k := by
  unfold segN chLen; rw [List.length_take, List.length_drop]
theorem ch_C {W : World} {A : Option Addr} {c : Nat} {l : List Int} (h : Kd.C (Kd.int .u8) W A l.length l) (hc : l.length ≤ c) (k : Nat) (hk : 256 * k < l.length) :
    Kd.C (Kd.int .u8) W (chAt A k) (segN l k).length (segN l k) := by
  have h2 := Kd.C_mid (lo := 256 * k) (hi := min (256 * k + 256) l.length) h (by omega) (Nat.min_le_right _ _) hc
  rw [if_neg (by omega)] at h2
  have e : (l.take (min (256 * k + 256) l.length)).drop (256 * k) = segN l k := by
    unfold segN
    rw [List.drop_take]
    have : (l.drop (256 * k)).take (min (256 * k + 256) l.length - 256 * k) = (l.drop (256 * k)).take 256 := by
      by_cases h5 : 256 * k + 256 ≤ l.length
      · rw [Nat.min_eq_left h5]; congr 1; omega
      · rw [Nat.min_eq_right (by omega), List.take_of_length_le (by rw [List.length_drop]; omega), List.take_of_length_le (by rw [List.length_drop]; omega)]
    exact this
  rw [e] at h2
  rw [show (Kd.int IntKind.u8).sz = 1 from rfl, Nat.mul_one] at h2
  exact h2
theorem pieces_C {W : World} {A : Option Addr} {c base : Nat} {l : List Int} {v : Value} (h : Kd.C (Kd.int .u8) W A l.length l) (hc : l.length ≤ c) (hp : l ≠ [])
    (hr : W.ownsRow base 23 1 v (nch l.length) ((List.range (nch l.length)).map (ch A l.length))) :
    ∃ g cp, v = .slice (some ⟨g, 0, none⟩) (segsL l).length cp ∧ (segsL l).length ≤ cp ∧ Kd.C (Kd.slice 5 (Kd.int .u8)) W (some ⟨g, 0, none⟩) (segsL l).length (segsL l) := by
  have hl : 0 < l.length := List.length_pos_iff.2 hp
  have hn : 0 < nch l.length := by unfold nch; omega
  have hsl : (segsL l).length = nch l.length := by simp [segsL]
  have hmax := h.2.1
  rcases hr.2 with ⟨_, h0⟩ | ⟨g, cap, cur, rfl, hg, hh, h1, h2, h3, h4⟩
  · omega
  refine ⟨g, cap, by rw [hsl], by omega, rfl, by rw [hsl]; unfold nch; omega, fun _ => ⟨_, rfl, fun j p hj => ?_⟩⟩
  have hj' : j < nch l.length := by
    have := (List.getElem?_eq_some_iff.1 hj).1
    omega
  have hj2 : 256 * j < l.length := by unfold nch at hj'; omega
  obtain rfl : segN l j = p := by
    rw [segsL, List.getElem?_map, List.getElem?_range hj'] at hj
    exact Option.some.inj hj
  refine ⟨[ch A l.length j], rfl, ⟨chAt A j, chLen l.length j, ?_, ?_, ch_C h hc j hj2⟩, fun i u hu => ?_⟩
  · rw [segN_len]; rfl
  · rw [segN_len]; exact Nat.le_refl _
  · have hi : i = 0 := by
      cases i with
      | zero => rfl
      | succ i => simp at hu
    subst hi
    simp at hu
    subst hu
    have e : ((⟨g, 0, none⟩ : Addr).add (j * (Kd.slice 5 (Kd.int .u8)).sz + 0)) = ⟨g, j, none⟩ := by
      show (⟨g, 0, none⟩ : Addr).add (j * 1 + 0) = _
      unfold Addr.add
      split
      · next h => have : j = 0 := by omega
                  rw [this]
      · simp
    rw [e]
    simp only [World.cell?, hh]
    have hc2 : cur[j]? = some (ch A l.length j) := by
      have : (cur.toList.take (nch l.length * 1))[j]? = some (ch A l.length j) := by
        rw [h4, List.getElem?_map, List.getElem?_range hj']; rfl
      rw [List.getElem?_take_of_lt (by omega), Array.getElem?_toList] at this
      exact this
    rw [hc2]
    rfl
theorem C_four {w : World} {A0 A1 A2 A3 : Option Addr} {c0 c1 c2 c3 : Nat} {l0 l1 l2 l3 : List Int} (h0 : Kd.C (Kd.int .u8) w A0 l0.length l0) (h1 : Kd.C (Kd.int .u8) w A1 l1.length l1) (h2 : Kd.C (Kd.int .u8) w A2 l2.length l2) (h3 : Kd.C (Kd.int .u8) w A3 l3.length l3)
    (k0 : l0.length ≤ c0) (k1 : l1.length ≤ c1) (k2 : l2.length ≤ c2) (k3 : l3.length ≤ c3) :
    Kd.C (Kd.slice 5 (Kd.int .u8)) (w.alloc (.cells #[.slice A0 l0.length c0, .slice A1 l1.length c1, .slice A2 l2.length c2, .slice A3 l3.length c3] 23)) (some ⟨w.heap.size, 0, none⟩) [l0, l1, l2, l3].length [l0, l1, l2, l3] := by
  have hn := alloc_new w (.cells #[.slice A0 l0.length c0, .slice A1 l1.length c1, .slice A2 l2.length c2, .slice A3 l3.length c3] 23)
  refine ⟨rfl, by simp, fun _ => ⟨_, rfl, fun j p hj => ?_⟩⟩
  have hj4 : j < 4 := (List.getElem?_eq_some_iff.1 hj).1
  have e : ∀ j : Nat, ((⟨w.heap.size, 0, none⟩ : Addr).add (j * (Kd.slice 5 (Kd.int .u8)).sz + 0)) = ⟨w.heap.size, j, none⟩ := by
    intro j
    show (⟨w.heap.size, 0, none⟩ : Addr).add (j * 1 + 0) = _
    unfold Addr.add
    split
    · next h => have : j = 0 := by omega
                rw [this]
    · simp
  have one : ∀ (j : Nat) (u : Value), #[Value.slice A0 l0.length c0, .slice A1 l1.length c1, .slice A2 l2.length c2, .slice A3 l3.length c3][j]? = some u → ∀ (i : Nat) (x : Value), [u][i]? = some x → (w.alloc (.cells #[.slice A0 l0.length c0, .slice A1 l1.length c1, .slice A2 l2.length c2, .slice A3 l3.length c3] 23)).cell? ((⟨w.heap.size, 0, none⟩ : Addr).add (j * (Kd.slice 5 (Kd.int .u8)).sz + i)) = some x := by
    intro j u hu i x hx
    have hi : i = 0 := by
      cases i with
      | zero => rfl
      | succ i => simp at hx
    subst hi
    rw [e j]
    simp only [World.cell?, hn]
    rw [hu]
    simpa using hx
  rcases j with _ | _ | _ | _ | j
  · obtain rfl : l0 = p := by simpa using hj
    exact ⟨_, rfl, ⟨A0, c0, rfl, k0, Kd.C_alloc h0 _⟩, one 0 _ rfl⟩
  · obtain rfl : l1 = p := by simpa using hj
    exact ⟨_, rfl, ⟨A1, c1, rfl, k1, Kd.C_alloc h1 _⟩, one 1 _ rfl⟩
  · obtain rfl : l2 = p := by simpa using hj
    exact ⟨_, rfl, ⟨A2, c2, rfl, k2, Kd.C_alloc h2 _⟩, one 2 _ rfl⟩
  · obtain rfl : l3 = p := by simpa using hj
    exact ⟨_, rfl, ⟨A3, c3, rfl, k3, Kd.C_alloc h3 _⟩, one 3 _ rfl⟩
  · omega
end Go.Proofs.Ytdklanenmihpdaa.Hand
namespace Go.Proofs.Ytdklanenmihpdaa.Hand
open Go.RowKit Go.Proofs.YtdklanenmihpdaaW.PrintWords Go.Proofs.YtdklanenmihpdaaW.PrintLast Go.Proofs.YtdklanenmihpdaaW.PrintMore Go.Proofs.Ytdklanenmihpdaa.PA Go.Proofs.Ytdklanenmihpdaa.Chunks
theorem cutOf_len (id : Int) (ps : List (List Int)) : (cutOf id ps).length = ps.length := by simp [cutOf]
theorem cutOf_take (id : Int) (ps : List (List Int)) (k : Nat) (hk : k < ps.length) : (cutOf id ps).take (k + 1) = (cutOf id ps).take k ++ [partL id k ps.length (ps.getD k [])] := by
  rw [List.take_add_one, List.getElem?_eq_getElem (by rw [cutOf_len]; exact hk)]
  simp [cutOf]
theorem varL_b (a : Int) (h0 : 0 ≤ a) (h1 : a < 18446744073709551616) : (∀ x ∈ varL 9 a, 0 ≤ x ∧ x < 256) ∧ (varL 9 a).length ≤ 10 := by
  obtain ⟨F, c, eV, hF, c0, c1, hl⟩ := varL_front 9 a h0 (by simp only [Int.reducePow, Int.reduceMul]; omega)
  rw [eV]
  constructor
  · intro x hx
    rcases List.mem_append.1 hx with h | h
    · have := hF x h; omega
    · rw [List.mem_singleton.1 h]; omega
  · simp; omega
theorem join_part {a0 : Int} {i m : Nat} {p : List Int} (h0 : 0 ≤ a0) (h1 : a0 < 18446744073709551616) (hi : (i : Int) < 18446744073709551616) (hm : (m : Int) < 18446744073709551616) (hb : ∀ x ∈ p, 0 ≤ x ∧ x < 256) (hl : p.length ≤ 256) :
    bytes_Join.f [varL 9 a0, varL 9 (i : Int), varL 9 (m : Int), p] [] = some (partL a0 i m p) := by
  have b1 := varL_b a0 h0 h1
  have b2 := varL_b (i : Int) (by omega) hi
  have b3 := varL_b (m : Int) (by omega) hm
  have e : ([varL 9 a0, varL 9 (i : Int), varL 9 (m : Int), p] : List (List Int)).flatten = partL a0 i m p := by simp [partL]
  unfold bytes_Join.f
  rw [e, if_pos]
  refine ⟨by simp, by simp, rfl, ?_, ?_⟩
  · rw [List.all_eq_true]
    intro x hx
    rw [byteB_iff]
    unfold partL at hx
    rcases List.mem_append.1 hx with h | h
    · exact b1.1 x h
    rcases List.mem_append.1 h with h | h
    · exact b2.1 x h
    rcases List.mem_append.1 h with h | h
    · exact b3.1 x h
    · exact hb x h
  · unfold partL
    simp only [List.length_append]
    have := b1.2; have := b2.2; have := b3.2
    omega
def frag_Cut.f (a0 : Int) (l1 : List Int) : Option (List (List Int) × Int) :=
  if a0 < 1 then some ([], 17) else if 4611686018427387904 < a0 then some ([], 17) else if 1048576 < l1.length then some ([], 4) else if l1.all byteB = true then some (cutL a0 l1, 0) else none
def CutPost (w : World) (r1 : List (List Int)) (r2 : Int) (e : Ending) (w' : World) : Prop :=
  ∃ v0_ : Value, e = .returned (.tuple #[v0_, .int .i64 r2]) ∧ Kd.V (Kd.slice 5 (Kd.int .u8)) 23 w' w.heap.size (fun k_ => True ∧ w.heap.size ≤ k_ ∧ k_ < w'.heap.size) v0_ r1 ∧ Below w.heap.size w w'
set_option maxRecDepth 100000
theorem C_one_nil (w : World) : Kd.C (Kd.slice 5 (Kd.int .u8)) (w.alloc (.cells #[.slice none 0 0] 23)) (some ⟨w.heap.size, 0, none⟩) ([[]] : List (List Int)).length [[]] := by
  have hn := alloc_new w (.cells #[.slice none 0 0] 23)
  refine ⟨rfl, by simp, fun _ => ⟨_, rfl, fun j p hj => ?_⟩⟩
  have hj0 : j = 0 := by have := (List.getElem?_eq_some_iff.1 hj).1; simp at this; omega
  subst hj0
  obtain rfl : [] = p := by simpa using hj
  refine ⟨[.slice none 0 0], rfl, ⟨none, 0, rfl, Nat.le_refl _, Kd.C_nil _ _⟩, fun i u hu => ?_⟩
  have hi : i = 0 := by
    cases i with
    | zero => rfl
    | succ i => simp at hu
  subst hi
  simp at hu
  subst hu
  rw [show ((⟨w.heap.size, 0, none⟩ : Addr).add (0 * (Kd.slice 5 (Kd.int .u8)).sz + 0)) = ⟨w.heap.size, 0, none⟩ from rfl]
  simp only [World.cell?, hn]
  rfl
set_option maxHeartbeats 4000000 in
theorem cut_empty (a0 : Int) (A1 : Option Addr) (c1 : Nat) (l1 : List Int) (w : World) (hr1 : Kd.C (Kd.int .u8) w A1 l1.length l1) (hc1 : l1.length ≤ c1) (h1 : 1 ≤ a0) (h2 : a0 ≤ 4611686018427387904) (h3 : l1.length ≤ 1048576) (hb : ∀ x ∈ l1, 0 ≤ x ∧ x < 256) (hp : l1 = []) :
    Calls Try.prog 25 #[.int .u64 a0, .slice A1 l1.length c1] w (CutPost w (cutL a0 l1) 0) := by
  obtain ⟨PS, hPS⟩ : ∃ PS, piecesL l1 = PS := ⟨_, rfl⟩
  unfold CutPost cutL
  rw [hPS]
  have HR1 := Aside0.mk (And.intro hr1 (And.intro hc1 hp))
  have Ha := Aside0.mk (And.intro h1 h2)
  have HA1 := Aside0.mk (show 0 < l1.length → A1 ≠ none from fun hpos e => by obtain ⟨ad, e2, _⟩ := hr1.2.2 hpos; rw [e] at e2; cases e2)
  have HPS := Aside0.mk hPS
  have Hb := Aside0.mk hb
  have e1 : decide (a0 < 1) = false := decide_eq_false (by omega)
  have e2 : decide (4611686018427387904 < a0) = false := decide_eq_false (by omega)
  have e3 : decide (1048576 < (l1.length : Int)) = false := decide_eq_false (by omega)
  have H3 := Aside0.mk h3
  clear hr1 hc1 hp hPS hb h1 h2 h3
  go_enter Try.func25, Try.ntmps25
  go_wp2_with fail
  refine (chunk_calls A1 l1.length c1 w).mono ?_
  rintro en wa ⟨rfl, hwa⟩
  have hszA : wa.heap.size = w.heap.size + 2 := by rw [hwa]; simp
  have hBa : Below w.heap.size w wa := by rw [hwa]; exact below_alloc (below_alloc (Below.refl _ _) _) _
  have hcs : wa.cell? ⟨w.heap.size, 0, none⟩ = some (.slice A1 l1.length c1) := by
    rw [hwa]; exact ((Boxed.new w 23 (.slice A1 l1.length c1)).alloc _).cell
  have hcn : wa.cell? ⟨w.heap.size + 1, 0, none⟩ = some (.int .i64 256) := by
    have := (Boxed.new (w.alloc (.cells #[.slice A1 l1.length c1] 23)) 3 (.int .i64 256)).cell
    rw [World.size_alloc] at this
    rw [hwa]; exact this
  have Hwa := Aside0.mk (And.intro hszA (And.intro hBa (And.intro hcs hcn)))
  clear hwa hszA hBa hcs hcn
  go_wp2_with fail
  refine (collect_calls w.heap.size (w.heap.size + 1) A1 l1.length c1 HA1.out HR1.out.2.1 H3.out wa (by have := Hwa.out.1; omega) (by have := Hwa.out.1; omega) Hwa.out.2.2.1 Hwa.out.2.2.2).mono ?_
  rintro en wb ⟨v6, rfl, hr6, hb6⟩
  have HBb := Aside0.mk (below_step Hwa.out.2.1 hb6)
  have HCb := Aside0.mk (Kd.C_below (Kd.C_below HR1.out.1 Hwa.out.2.1) hb6)
  have HR6 := Aside0.mk hr6
  clear hr6 hb6
  have hv6 : ∃ A6 c6, v6 = .slice A6 0 c6 := by
    have hn0 : nch l1.length = 0 := by rw [HR1.out.2.2]; rfl
    rcases HR6.out.2 with ⟨h, _⟩ | ⟨g, cap, cur, h, _⟩
    · exact ⟨none, 0, h⟩
    · exact ⟨some ⟨g, 0, none⟩, cap, by rw [h, hn0]⟩
  obtain ⟨A6, c6, rfl⟩ := hv6
  clear HR6
  obtain ⟨W1, hW1⟩ : ∃ W1, wb.alloc (.cells #[.slice none 0 0] 23) = W1 := ⟨_, rfl⟩
  have hPSe : PS = [[]] := by rw [← HPS.out, HR1.out.2.2]; rfl
  have hPl : PS.length = 1 := by rw [hPSe]; rfl
  have HP := Aside0.mk (show Kd.C (Kd.slice 5 (Kd.int .u8)) W1 (some ⟨wb.heap.size, 0, none⟩) 1 PS by rw [hPSe, ← hW1]; exact C_one_nil wb)
  have HB1 := Aside0.mk (show Below w.heap.size w W1 by rw [← hW1]; exact below_alloc HBb.out _)
  have Hm := Aside0.mk (show 1 ≤ 1 ∧ 1 ≤ 4096 by omega)
  have Hps := Aside0.mk (show ∀ k, k < 1 → (∀ x ∈ PS.getD k [], 0 ≤ x ∧ x < 256) ∧ (PS.getD k []).length ≤ 256 by
    intro k hk
    have : k = 0 := by omega
    subst this
    rw [hPSe]
    simp)
  have HPL := Aside0.mk hPl
  have HW1 := Aside0.mk hW1
  clear hPSe hPl hW1 HPS
  go_upto_region 8 with fail
  rw [HW1.out]
  have HN0 := Aside0.mk (Kd.N_nil (Kd.slice 5 (Kd.int .u8)) 23 W1 W1.heap.size (fun k => W1.heap.size ≤ k))
  go_wp2_with fail
  go_loopw [7, 8, 9, 30, 31, 32, 33, 34, 35, 36, 37, 38, 39, 40, 41, 42, 43, 44, 45, 46, 47, 48, 49, 50] (fun v7 v8 v9 v30 v31 v32 v33 v34 v35 v36 v37 v38 v39 v40 v41 v42 v43 v44 v45 v46 v47 v48 v49 v50 wr => ∃ k : Nat, k ≤ 1 ∧ v30 = .int .i64 (k : Int) ∧ Kd.N (Kd.slice 5 (Kd.int .u8)) 23 wr W1.heap.size (fun k => W1.heap.size ≤ k) v7 ((cutOf a0 PS).take k) ∧ Below W1.heap.size W1 wr)
    (fun v7 v8 v9 v30 v31 v32 v33 v34 v35 v36 v37 v38 v39 v40 v41 v42 v43 v44 v45 v46 v47 v48 v49 v50 _ => 1 - (intOf v30).toNat)
  case atStart => exact ⟨0, Nat.zero_le _, rfl, HN0.out, Below.refl _ _⟩
  case round =>
    obtain ⟨k, hk, rfl, hN, hB⟩ := hrel
    obtain ⟨X, hX⟩ : ∃ X, (cutOf a0 PS).take k = X := ⟨_, rfl⟩
    rw [hX] at hN
    have HX := Aside0.mk hX
    clear hX
    obtain ⟨A7, c7, rfl⟩ := Kd.N_slice hN
    have HNr := Aside0.mk hN
    have HBr := Aside0.mk hB
    clear hN hB
    by_cases hlt : k < 1
    · obtain ⟨ad', cc, e1, _, ⟨Ak, ck, rfl, hck, hCk⟩, hcell⟩ := Kd.C_get (Kd.C_below HP.out HBr.out) [] (k : Int) (by omega) (by omega)
      obtain rfl := Option.some.inj e1
      have hcl := hcell 0 _ rfl
      rw [show (Kd.slice 5 (Kd.int IntKind.u8)).sz = 1 from rfl, Nat.mul_one, Nat.add_zero, Int.toNat_natCast] at hcl
      have HCk := Aside0.mk (And.intro hck hCk)
      have HK := Aside0.mk (And.intro hlt hk)
      have ekt : (k : Int).toNat = k := Int.toNat_natCast k
      have hkb : k < 4096 := by have := Hm.out; omega
      clear hcell hck hCk e1 hk
      rw [show ∀ b : Nat, (⟨b, 0, none⟩ : Addr).add k = ⟨b, k, none⟩ from fun b => by unfold Addr.add; split <;> simp_all] at hcl
      rw [ekt] at HCk
      generalize hpk : PS.getD k [] = pk at HCk hcl
      have HPk := Aside0.mk hpk
      clear hpk
      have hw1 : IntKind.u64.wrap (k : Int) = (k : Int) := IntWalk.u64_in _ (by have := Hm.out; omega)
      have hw2 : IntKind.u64.wrap 1 = 1 := IntWalk.u64_in _ (by have := Hm.out; omega)
      go_wp2_with fail
      refine (wire_Var.calls 12 a0 (varL 9 a0) _ (wireVar_any 12 (by omega) a0 (by have := Ha.out; omega) (by have := Ha.out; omega))).mono ?_
      rintro en w2 ⟨v2, rfl, hr2, hb2⟩
      obtain ⟨A2, c2, rfl, hc2, hC2⟩ := Kd.R_reads hr2
      have HV2 := Aside0.mk (And.intro hc2 hC2)
      have HN2 := Aside0.mk (Kd.N_below HNr.out hb2)
      have HCk2 := Aside0.mk (Kd.C_below HCk.out.2 hb2)
      have HB2 := Aside0.mk (below_step HBr.out hb2)
      clear hr2 hb2 hc2 hC2
      go_wp2_with fail
      refine (wire_Var.calls 12 (k : Int) (varL 9 (k : Int)) _ (wireVar_any 12 (by omega) (k : Int) (by omega) (by have := Hm.out; have := HK.out; omega))).mono ?_
      rintro en w3 ⟨v3, rfl, hr3, hb3⟩
      obtain ⟨A3, c3, rfl, hc3, hC3⟩ := Kd.R_reads hr3
      have HV3 := Aside0.mk (And.intro hc3 hC3)
      have HV23 := Aside0.mk (Kd.C_below HV2.out.2 hb3)
      have HN3 := Aside0.mk (Kd.N_below HN2.out hb3)
      have HCk3 := Aside0.mk (Kd.C_below HCk2.out hb3)
      have HB3 := Aside0.mk (below_step HB2.out hb3)
      clear hr3 hb3 hc3 hC3
      go_wp2_with fail
      refine (wire_Var.calls 12 1 (varL 9 1) _ (wireVar_any 12 (by omega) 1 (by omega) (by have := Hm.out; omega))).mono ?_
      rintro en w4 ⟨v4, rfl, hr4, hb4⟩
      obtain ⟨A4, c4, rfl, hc4, hC4⟩ := Kd.R_reads hr4
      have HJ := Aside0.mk (C_four (Kd.C_below HV23.out hb4) (Kd.C_below HV3.out.2 hb4) hC4 (Kd.C_below HCk3.out hb4) HV2.out.1 HV3.out.1 hc4 HCk.out.1)
      have HN4 := Aside0.mk (Kd.N_below HN3.out hb4)
      have HB4 := Aside0.mk (below_step HB3.out hb4)
      clear hr4 hb4 hc4 hC4
      have hjf := join_part (a0 := a0) (i := k) (m := 1) (p := pk) (by have := Ha.out; omega) (by have := Ha.out; omega) (by have := HK.out; have := Hm.out; omega) (by have := Hm.out; omega) (HPk.out ▸ (Hps.out k HK.out.1).1) (HPk.out ▸ (Hps.out k HK.out.1).2)
      have HJF := Aside0.mk hjf
      clear hjf
      go_wp2_with fail
      refine (bytes_Join.calls (some ⟨w4.heap.size, 0, none⟩) 4 _ none 0 [] _ _ HJ.out (by simp) (Kd.C_nil _ _) (by simp) HJF.out (fun _ ad e => by injection e with e; subst e; rfl)).mono ?_
      rintro en w5 ⟨v5, rfl, hv5, hb5⟩
      obtain ⟨A5, c5, rfl, hc5, hF5⟩ := hv5
      have HF5 := Aside0.mk (And.intro hc5 hF5)
      have HN5 := Aside0.mk (Kd.N_below (Kd.N_alloc HN4.out _) hb5)
      have HB5 := Aside0.mk (below_step (below_alloc HB4.out _) hb5)
      have HS5 := Aside0.mk (show w4.heap.size + 1 ≤ w5.heap.size by have := hb5.size; simpa using this)
      clear hb5 hc5 hF5
      have HLEN : Aside0 (X.length = k) := ⟨by rw [← HX.out, List.length_take, cutOf_len]; have := HK.out; have := HPL.out; omega⟩
      have hfk : Kd.FK (Kd.slice 5 (Kd.int .u8)) w5 (fun k => w4.heap.size + 1 ≤ k ∧ k < w5.heap.size) (partL a0 k 1 pk) [.slice A5 (partL a0 k 1 pk).length c5] := by
        refine Kd.FK_slice_mk HF5.out.1 (Kd.F_mono HF5.out.2 ?_)
        rintro i ⟨_, h1, h2⟩
        exact ⟨by simpa using h1, h2⟩
      have HFK := Aside0.mk hfk
      have hapart : ∀ i, (w4.heap.size + 1 ≤ i ∧ i < w5.heap.size) → W1.heap.size ≤ i ∧ some i ≠ (Value.slice A7 X.length c7).ownBlock := by
        rintro i ⟨h1, h2⟩
        refine ⟨by have := HB4.out.size; omega, fun e => ?_⟩
        have := Kd.N_lt HN4.out i e.symm
        omega
      have HAP := Aside0.mk hapart
      have hbd : (X.length + 1) * 24 ≤ 140737488355328 := by rw [HLEN.out]; have := Hm.out; omega
      have HBD := Aside0.mk hbd
      clear hfk hapart hbd
      go_wp2_with (first | (at_builtin; refine Kd.N_append (Kd.slice 5 (Kd.int .u8)) (w0 := W1) W1.heap.size rfl (.tmp 35) (.tmp 48) 48 23 (.slice none 0 0) 24 rfl Try.underlying48 info_bytes rfl (by decide) (by decide) (.slice A7 X.length c7) _ (partL a0 k 1 pk) [.slice A5 (partL a0 k 1 pk).length c5] _ _ rfl rfl HFK.out HAP.out (fun k hk => Nat.le_trans HB5.out.size hk) HN5.out HB5.out HB5.out.size HBD.out ?_; intro v9 w9 hN9 hB9 hg9 hat9; obtain ⟨A9, c9, rfl⟩ := Kd.N_slice hN9))
      go_roundw
      case rel =>
        refine ⟨k + 1, HK.out.1, by simp, ?_, hB9⟩
        rw [cutOf_take a0 PS k (by rw [HPL.out]; exact HK.out.1), HPL.out, HPk.out, HX.out]
        rw [List.length_append, List.length_singleton] at hN9
        exact hN9
      case measure => have := HK.out; simp [intOf] <;> omega
    · have hkl : k = 1 := by omega
      have HK := Aside0.mk hkl
      clear hk
      have eall : X = cutOf a0 PS := by rw [← HX.out, HK.out, List.take_of_length_le (by rw [cutOf_len, HPL.out]; exact Nat.le_refl _)]
      subst eall
      clear hkl HX
      go_wp2_with fail
      go_ret2
      refine ⟨.slice A7 (cutOf a0 PS).length c7, rfl, ?_, ?_⟩
      · refine ⟨A7, c7, rfl, (Kd.N_reads' HNr.out).2.1, Kd.F_mono (Kd.F_bound (Kd.N_F HNr.out)) ?_⟩
        rintro i ⟨h1, h2⟩
        exact ⟨trivial, Nat.le_trans HB1.out.size h1, h2⟩
      · exact HB1.out.trans (HBr.out.mono HB1.out.size)
set_option maxHeartbeats 4000000 in
theorem cut_some (a0 : Int) (A1 : Option Addr) (c1 : Nat) (l1 : List Int) (w : World) (hr1 : Kd.C (Kd.int .u8) w A1 l1.length l1) (hc1 : l1.length ≤ c1) (h1 : 1 ≤ a0) (h2 : a0 ≤ 4611686018427387904) (h3 : l1.length ≤ 1048576) (hb : ∀ x ∈ l1, 0 ≤ x ∧ x < 256) (hp : l1 ≠ []) :
    Calls Try.prog 25 #[.int .u64 a0, .slice A1 l1.length c1] w (CutPost w (cutL a0 l1) 0) := by
  obtain ⟨PS, hPS⟩ : ∃ PS, piecesL l1 = PS := ⟨_, rfl⟩
  unfold CutPost cutL
  rw [hPS]
  have HR1 := Aside0.mk (And.intro hr1 (And.intro hc1 hp))
  have Ha := Aside0.mk (And.intro h1 h2)
  have HA1 := Aside0.mk (show 0 < l1.length → A1 ≠ none from fun hpos e => by obtain ⟨ad, e2, _⟩ := hr1.2.2 hpos; rw [e] at e2; cases e2)
  have HPS := Aside0.mk hPS
  have Hb := Aside0.mk hb
  have e1 : decide (a0 < 1) = false := decide_eq_false (by omega)
  have e2 : decide (4611686018427387904 < a0) = false := decide_eq_false (by omega)
  have e3 : decide (1048576 < (l1.length : Int)) = false := decide_eq_false (by omega)
  have H3 := Aside0.mk h3
  clear hr1 hc1 hp hPS hb h1 h2 h3
  go_enter Try.func25, Try.ntmps25
  go_wp2_with fail
  refine (chunk_calls A1 l1.length c1 w).mono ?_
  rintro en wa ⟨rfl, hwa⟩
  have hszA : wa.heap.size = w.heap.size + 2 := by rw [hwa]; simp
  have hBa : Below w.heap.size w wa := by rw [hwa]; exact below_alloc (below_alloc (Below.refl _ _) _) _
  have hcs : wa.cell? ⟨w.heap.size, 0, none⟩ = some (.slice A1 l1.length c1) := by
    rw [hwa]; exact ((Boxed.new w 23 (.slice A1 l1.length c1)).alloc _).cell
  have hcn : wa.cell? ⟨w.heap.size + 1, 0, none⟩ = some (.int .i64 256) := by
    have := (Boxed.new (w.alloc (.cells #[.slice A1 l1.length c1] 23)) 3 (.int .i64 256)).cell
    rw [World.size_alloc] at this
    rw [hwa]; exact this
  have Hwa := Aside0.mk (And.intro hszA (And.intro hBa (And.intro hcs hcn)))
  clear hwa hszA hBa hcs hcn
  go_wp2_with fail
  refine (collect_calls w.heap.size (w.heap.size + 1) A1 l1.length c1 HA1.out HR1.out.2.1 H3.out wa (by have := Hwa.out.1; omega) (by have := Hwa.out.1; omega) Hwa.out.2.2.1 Hwa.out.2.2.2).mono ?_
  rintro en wb ⟨v6, rfl, hr6, hb6⟩
  have HBb := Aside0.mk (below_step Hwa.out.2.1 hb6)
  have HCb := Aside0.mk (Kd.C_below (Kd.C_below HR1.out.1 Hwa.out.2.1) hb6)
  have HR6 := Aside0.mk hr6
  clear hr6 hb6
  obtain ⟨g6, c6, rfl, hc6, hP6⟩ := pieces_C HCb.out HR1.out.2.1 HR1.out.2.2 HR6.out
  clear HR6
  have hPSe : segsL l1 = PS := by rw [← HPS.out]; unfold piecesL; rw [if_neg HR1.out.2.2]
  rw [hPSe] at hc6 hP6 ⊢
  have hpos : 0 < l1.length := List.length_pos_iff.2 HR1.out.2.2
  have hPl : PS.length = nch l1.length := by rw [← hPSe]; simp [segsL]
  obtain ⟨NP, hNP⟩ : ∃ NP, PS.length = NP := ⟨_, rfl⟩
  rw [hNP] at hP6 hPl ⊢
  have hPl1 : 1 ≤ NP := by rw [hPl]; unfold nch; omega
  have hPl2 : NP ≤ 4096 := by rw [hPl]; exact nch_le H3.out
  have HP := Aside0.mk hP6
  have HPL := Aside0.mk hNP
  have HB1 := HBb
  have Hm := Aside0.mk (And.intro hPl1 hPl2)
  have Hps := Aside0.mk (show ∀ k, k < NP → (∀ x ∈ PS.getD k [], 0 ≤ x ∧ x < 256) ∧ (PS.getD k []).length ≤ 256 by
    intro k hk
    have e : PS.getD k [] = segN l1 k := by
      rw [← hPSe, segsL, List.getD_eq_getElem?_getD, List.getElem?_map, List.getElem?_range (by rw [← hPl]; exact hk)]; rfl
    rw [e]
    refine ⟨fun x hx => Hb.out x (List.mem_of_mem_drop (List.mem_of_mem_take hx)), ?_⟩
    unfold segN
    rw [List.length_take]
    omega)
  have ene2 : ¬ ((NP : Int) = 0) := by omega
  have ene : ((NP : Int) == 0) = false := beq_eq_false_iff_ne.2 ene2
  clear hPSe hPl hP6 hpos HPS hc6 hPl1 hPl2 hNP
  go_upto_region 8 with fail
  clear ene ene2
  have HN0 := Aside0.mk (Kd.N_nil (Kd.slice 5 (Kd.int .u8)) 23 wb wb.heap.size (fun k => wb.heap.size ≤ k))
  go_wp2_with fail
  go_loopw [7, 8, 9, 30, 31, 32, 33, 34, 35, 36, 37, 38, 39, 40, 41, 42, 43, 44, 45, 46, 47, 48, 49, 50] (fun v7 v8 v9 v30 v31 v32 v33 v34 v35 v36 v37 v38 v39 v40 v41 v42 v43 v44 v45 v46 v47 v48 v49 v50 wr => ∃ k : Nat, k ≤ NP ∧ v30 = .int .i64 (k : Int) ∧ Kd.N (Kd.slice 5 (Kd.int .u8)) 23 wr wb.heap.size (fun k => wb.heap.size ≤ k) v7 ((cutOf a0 PS).take k) ∧ Below wb.heap.size wb wr)
    (fun v7 v8 v9 v30 v31 v32 v33 v34 v35 v36 v37 v38 v39 v40 v41 v42 v43 v44 v45 v46 v47 v48 v49 v50 _ => NP - (intOf v30).toNat)
  case atStart => exact ⟨0, Nat.zero_le _, rfl, HN0.out, Below.refl _ _⟩
  case round =>
    obtain ⟨k, hk, rfl, hN, hB⟩ := hrel
    obtain ⟨X, hX⟩ : ∃ X, (cutOf a0 PS).take k = X := ⟨_, rfl⟩
    rw [hX] at hN
    have HX := Aside0.mk hX
    clear hX
    obtain ⟨A7, c7, rfl⟩ := Kd.N_slice hN
    have HNr := Aside0.mk hN
    have HBr := Aside0.mk hB
    clear hN hB
    by_cases hlt : k < NP
    · obtain ⟨ad', cc, e1, _, ⟨Ak, ck, rfl, hck, hCk⟩, hcell⟩ := Kd.C_get (Kd.C_below HP.out HBr.out) [] (k : Int) (by omega) (by omega)
      obtain rfl := Option.some.inj e1
      have hcl := hcell 0 _ rfl
      rw [show (Kd.slice 5 (Kd.int IntKind.u8)).sz = 1 from rfl, Nat.mul_one, Nat.add_zero, Int.toNat_natCast] at hcl
      have HCk := Aside0.mk (And.intro hck hCk)
      have HK := Aside0.mk (And.intro hlt hk)
      have ekt : (k : Int).toNat = k := Int.toNat_natCast k
      have hkb : k < 4096 := by have := Hm.out; omega
      clear hcell hck hCk e1 hk
      rw [show ∀ b : Nat, (⟨b, 0, none⟩ : Addr).add k = ⟨b, k, none⟩ from fun b => by unfold Addr.add; split <;> simp_all] at hcl
      rw [ekt] at HCk
      generalize hpk : PS.getD k [] = pk at HCk hcl
      have HPk := Aside0.mk hpk
      clear hpk
      have hw1 : IntKind.u64.wrap (k : Int) = (k : Int) := IntWalk.u64_in _ (by have := Hm.out; omega)
      have hw2 : IntKind.u64.wrap (NP : Int) = (NP : Int) := IntWalk.u64_in _ (by have := Hm.out; omega)
      go_wp2_with fail
      refine (wire_Var.calls 12 a0 (varL 9 a0) _ (wireVar_any 12 (by omega) a0 (by have := Ha.out; omega) (by have := Ha.out; omega))).mono ?_
      rintro en w2 ⟨v2, rfl, hr2, hb2⟩
      obtain ⟨A2, c2, rfl, hc2, hC2⟩ := Kd.R_reads hr2
      have HV2 := Aside0.mk (And.intro hc2 hC2)
      have HN2 := Aside0.mk (Kd.N_below HNr.out hb2)
      have HCk2 := Aside0.mk (Kd.C_below HCk.out.2 hb2)
      have HB2 := Aside0.mk (below_step HBr.out hb2)
      clear hr2 hb2 hc2 hC2
      go_wp2_with fail
      refine (wire_Var.calls 12 (k : Int) (varL 9 (k : Int)) _ (wireVar_any 12 (by omega) (k : Int) (by omega) (by have := Hm.out; have := HK.out; omega))).mono ?_
      rintro en w3 ⟨v3, rfl, hr3, hb3⟩
      obtain ⟨A3, c3, rfl, hc3, hC3⟩ := Kd.R_reads hr3
      have HV3 := Aside0.mk (And.intro hc3 hC3)
      have HV23 := Aside0.mk (Kd.C_below HV2.out.2 hb3)
      have HN3 := Aside0.mk (Kd.N_below HN2.out hb3)
      have HCk3 := Aside0.mk (Kd.C_below HCk2.out hb3)
      have HB3 := Aside0.mk (below_step HB2.out hb3)
      clear hr3 hb3 hc3 hC3
      go_wp2_with fail
      refine (wire_Var.calls 12 (NP : Int) (varL 9 (NP : Int)) _ (wireVar_any 12 (by omega) (NP : Int) (by omega) (by have := Hm.out; omega))).mono ?_
      rintro en w4 ⟨v4, rfl, hr4, hb4⟩
      obtain ⟨A4, c4, rfl, hc4, hC4⟩ := Kd.R_reads hr4
      have HJ := Aside0.mk (C_four (Kd.C_below HV23.out hb4) (Kd.C_below HV3.out.2 hb4) hC4 (Kd.C_below HCk3.out hb4) HV2.out.1 HV3.out.1 hc4 HCk.out.1)
      have HN4 := Aside0.mk (Kd.N_below HN3.out hb4)
      have HB4 := Aside0.mk (below_step HB3.out hb4)
      clear hr4 hb4 hc4 hC4
      have hjf := join_part (a0 := a0) (i := k) (m := NP) (p := pk) (by have := Ha.out; omega) (by have := Ha.out; omega) (by have := HK.out; have := Hm.out; omega) (by have := Hm.out; omega) (HPk.out ▸ (Hps.out k HK.out.1).1) (HPk.out ▸ (Hps.out k HK.out.1).2)
      have HJF := Aside0.mk hjf
      clear hjf
      go_wp2_with fail
      refine (bytes_Join.calls (some ⟨w4.heap.size, 0, none⟩) 4 _ none 0 [] _ _ HJ.out (by simp) (Kd.C_nil _ _) (by simp) HJF.out (fun _ ad e => by injection e with e; subst e; rfl)).mono ?_
      rintro en w5 ⟨v5, rfl, hv5, hb5⟩
      obtain ⟨A5, c5, rfl, hc5, hF5⟩ := hv5
      have HF5 := Aside0.mk (And.intro hc5 hF5)
      have HN5 := Aside0.mk (Kd.N_below (Kd.N_alloc HN4.out _) hb5)
      have HB5 := Aside0.mk (below_step (below_alloc HB4.out _) hb5)
      have HS5 := Aside0.mk (show w4.heap.size + 1 ≤ w5.heap.size by have := hb5.size; simpa using this)
      clear hb5 hc5 hF5
      have HLEN : Aside0 (X.length = k) := ⟨by rw [← HX.out, List.length_take, cutOf_len]; have := HK.out; have := HPL.out; omega⟩
      have hfk : Kd.FK (Kd.slice 5 (Kd.int .u8)) w5 (fun k => w4.heap.size + 1 ≤ k ∧ k < w5.heap.size) (partL a0 k NP pk) [.slice A5 (partL a0 k NP pk).length c5] := by
        refine Kd.FK_slice_mk HF5.out.1 (Kd.F_mono HF5.out.2 ?_)
        rintro i ⟨_, h1, h2⟩
        exact ⟨by simpa using h1, h2⟩
      have HFK := Aside0.mk hfk
      have hapart : ∀ i, (w4.heap.size + 1 ≤ i ∧ i < w5.heap.size) → wb.heap.size ≤ i ∧ some i ≠ (Value.slice A7 X.length c7).ownBlock := by
        rintro i ⟨h1, h2⟩
        refine ⟨by have := HB4.out.size; omega, fun e => ?_⟩
        have := Kd.N_lt HN4.out i e.symm
        omega
      have HAP := Aside0.mk hapart
      have hbd : (X.length + 1) * 24 ≤ 140737488355328 := by rw [HLEN.out]; have := Hm.out; omega
      have HBD := Aside0.mk hbd
      clear hfk hapart hbd
      go_wp2_with (first | (at_builtin; refine Kd.N_append (Kd.slice 5 (Kd.int .u8)) (w0 := wb) wb.heap.size rfl (.tmp 35) (.tmp 48) 48 23 (.slice none 0 0) 24 rfl Try.underlying48 info_bytes rfl (by decide) (by decide) (.slice A7 X.length c7) _ (partL a0 k NP pk) [.slice A5 (partL a0 k NP pk).length c5] _ _ rfl rfl HFK.out HAP.out (fun k hk => Nat.le_trans HB5.out.size hk) HN5.out HB5.out HB5.out.size HBD.out ?_; intro v9 w9 hN9 hB9 hg9 hat9; obtain ⟨A9, c9, rfl⟩ := Kd.N_slice hN9))
      go_roundw
      case rel =>
        refine ⟨k + 1, HK.out.1, by simp, ?_, hB9⟩
        rw [cutOf_take a0 PS k (by rw [HPL.out]; exact HK.out.1), HPL.out, HPk.out, HX.out]
        rw [List.length_append, List.length_singleton] at hN9
        exact hN9
      case measure => have := HK.out; simp [intOf] <;> omega
    · have hkl : k = NP := by omega
      have HK := Aside0.mk hkl
      clear hk
      have eall : X = cutOf a0 PS := by rw [← HX.out, HK.out, List.take_of_length_le (by rw [cutOf_len, HPL.out]; exact Nat.le_refl _)]
      subst eall
      clear hkl HX
      go_wp2_with fail
      go_ret2
      refine ⟨.slice A7 (cutOf a0 PS).length c7, rfl, ?_, ?_⟩
      · refine ⟨A7, c7, rfl, (Kd.N_reads' HNr.out).2.1, Kd.F_mono (Kd.F_bound (Kd.N_F HNr.out)) ?_⟩
        rintro i ⟨h1, h2⟩
        exact ⟨trivial, Nat.le_trans HB1.out.size h1, h2⟩
      · exact HB1.out.trans (HBr.out.mono HB1.out.size)
set_option maxHeartbeats 2000000 in
theorem cut_no (a0 : Int) (A1 : Option Addr) (c1 : Nat) (l1 : List Int) (w : World) (r : Int) (h : (a0 < 1 ∨ 4611686018427387904 < a0) ∧ r = 17 ∨ (1 ≤ a0 ∧ a0 ≤ 4611686018427387904 ∧ 1048576 < l1.length) ∧ r = 4) :
    Calls Try.prog 25 #[.int .u64 a0, .slice A1 l1.length c1] w (CutPost w [] r) := by
  have fin : ∀ w', w' = w → CutPost w [] r (.returned (.tuple #[.slice none 0 0, .int .i64 r])) w' := by
    rintro w' rfl
    exact ⟨_, rfl, ⟨none, 0, rfl, Nat.le_refl _, Kd.F_nil _ _ _⟩, Below.refl _ _⟩
  have FIN := Aside0.mk fin
  clear fin
  rcases h with ⟨h1 | h1, rfl⟩ | ⟨⟨h1, h2, h3⟩, rfl⟩
  · have e1 : decide (a0 < 1) = true := decide_eq_true h1
    go_enter Try.func25, Try.ntmps25
    go_wp2_with fail
    go_ret2
    exact FIN.out _ rfl
  · have e1 : decide (a0 < 1) = false := decide_eq_false (by omega)
    have e2 : decide (4611686018427387904 < a0) = true := decide_eq_true h1
    go_enter Try.func25, Try.ntmps25
    go_wp2_with fail
    go_ret2
    exact FIN.out _ rfl
  · have e1 : decide (a0 < 1) = false := decide_eq_false (by omega)
    have e2 : decide (4611686018427387904 < a0) = false := decide_eq_false (by omega)
    have e3 : decide (1048576 < (l1.length : Int)) = true := decide_eq_true (by omega)
    go_enter Try.func25, Try.ntmps25
    go_wp2_with fail
    go_ret2
    exact FIN.out _ rfl
theorem frag_Cut.calls (a0 : Int) (A1 : Option Addr) (c1 : Nat) (l1 : List Int) (r1 : List (List Int)) (r2 : Int) (w : World) (hr1 : Kd.C (Kd.int .u8) w A1 l1.length l1) (hc1 : l1.length ≤ c1) (h : frag_Cut.f a0 l1 = some (r1, r2)) :
    Calls Try.prog 25 #[.int .u64 a0, .slice A1 l1.length c1] w fun e w' => ∃ v0_ : Value, e = .returned (.tuple #[v0_, .int .i64 r2]) ∧ Kd.V (Kd.slice 5 (Kd.int .u8)) 23 w' w.heap.size (fun k_ => True ∧ w.heap.size ≤ k_ ∧ k_ < w'.heap.size) v0_ r1 ∧ Below w.heap.size w w' := by
  show Calls _ _ _ w (CutPost w r1 r2)
  unfold frag_Cut.f at h
  split at h
  · rename_i h1
    have := Option.some.inj h
    obtain ⟨rfl, rfl⟩ := Prod.mk.inj this
    exact cut_no a0 A1 c1 l1 w 17 (.inl ⟨.inl h1, rfl⟩)
  split at h
  · rename_i h1
    have := Option.some.inj h
    obtain ⟨rfl, rfl⟩ := Prod.mk.inj this
    exact cut_no a0 A1 c1 l1 w 17 (.inl ⟨.inr h1, rfl⟩)
  split at h
  · rename_i h1 h2 h3
    have := Option.some.inj h
    obtain ⟨rfl, rfl⟩ := Prod.mk.inj this
    exact cut_no a0 A1 c1 l1 w 4 (.inr ⟨⟨by omega, by omega, h3⟩, rfl⟩)
  split at h
  case isFalse => cases h
  rename_i h1 h2 h3 h4
  have := Option.some.inj h
  obtain ⟨rfl, rfl⟩ := Prod.mk.inj this
  have hb : ∀ x ∈ l1, 0 ≤ x ∧ x < 256 := fun x hx => byteB_iff.1 (List.all_eq_true.1 h4 x hx)
  by_cases hp : l1 = []
  · exact cut_empty a0 A1 c1 l1 w hr1 hc1 (by omega) (by omega) (by omega) hb hp
  · exact cut_some a0 A1 c1 l1 w hr1 hc1 (by omega) (by omega) (by omega) hb hp
end Go.Proofs.Ytdklanenmihpdaa.Hand
namespace Go.Proofs.Ytdklanenmihpdaa.Hand
open Go.RowKit Go.Proofs.YtdklanenmihpdaaW.PrintWords Go.Proofs.YtdklanenmihpdaaW.PrintLast Go.Proofs.Ytdklanenmihpdaa.PA
def fstopV : Value := .iface 103 (.agg #[])
def fstopR : List PanicEntry := [{ v := .iface 103 (.agg #[]), recovered := false }]
theorem fasks_ok {b : Bool} {w : World} (hb : b = true) : Calls Try.prog 60 #[.bool b] w fun en w' => en = .returned (.tuple #[]) ∧ w = w' := by
  subst hb
  go_enter Try.func60, Try.ntmps60
  go_wp2
  go_end0
  exact ⟨rfl, rfl⟩
theorem fasks_no {b : Bool} {w : World} (hb : b = false) : Calls Try.prog 60 #[.bool b] w fun en w' => en = .panicked fstopR ∧ w = w' := by
  subst hb
  have hbd : ∀ W : World, (Instr.build 103 #[]).run Try.prog W = .ok (.agg #[]) W := fun W => run_build (P := Try.prog) W 103 #[] _ (by kernel_rfl)
  go_enter Try.func60, Try.ntmps60
  go_wp2
  exact ⟨rfl, rfl, rfl⟩
theorem wpList_storeR {P : Program} {ops : Array Oper} {rest : List Oper} {o : Oper} {a : Act} {w w' : World} {Q : Exit → Act → World → Prop} (hgd : o.guard = none) (ty : TypeId) (x y : Operand) (ho : o.op = .store ty x y) {u v : Value} (hx : a.eval x = u) (hy : a.eval y = v)
    (hr : (Instr.storeAt ty u v).run P w = .ok () w') (h : wpList P ops Q rest (a.put o.dst undef) w') : wpList P ops Q (o :: rest) a w :=
  wpList_plain hgd fun _ hK => by
    unfold Oper.wp execOp
    simp only [ho, hx, hy, Sem.run_bind, hr, Result.andThen_ok, Sem.run_pure]
    exact hK _ _ h
theorem wpList_loadR {P : Program} {ops : Array Oper} {rest : List Oper} {o : Oper} {a : Act} {w : World} {Q : Exit → Act → World → Prop} (hgd : o.guard = none) (ty : TypeId) (x : Operand) (ho : o.op = .load ty x) {u v : Value} (hx : a.eval x = u)
    (hr : (Instr.loadAt ty u).run P w = .ok v w) (h : wpList P ops Q rest (a.put o.dst v) w) : wpList P ops Q (o :: rest) a w :=
  wpList_plain hgd fun _ hK => by
    unfold Oper.wp execOp
    simp only [ho, hx, Sem.run_bind, hr, Result.andThen_ok, Sem.run_pure]
    exact hK _ _ h
abbrev partO (id at_ n : Int) (v : Value) : Obj := .cells #[.int .u64 id, .int .i64 at_, .int .i64 n, v] 91 (0, 0)
theorem part_store {W : World} {g : Nat} {a b c : Int} {v : Value} (a' b' c' : Int) (A : Option Addr) (n k : Nat) (h : W.heap[g]? = some (partO a b c v)) :
    ∃ W', (Instr.storeAt 91 (.pointer (some ⟨g, 0, none⟩)) (.agg #[.int .u64 a', .int .i64 b', .int .i64 c', .slice A n k])).run Try.prog W = .ok () W' ∧ W'.heap[g]? = some (partO a' b' c' (.slice A n k)) ∧ Mu (· = g) W W' := by
  refine ⟨W.setRow g #[.int .u64 a', .int .i64 b', .int .i64 c', .slice A n k], ?_, setRow_heap W g _ _ _ _ h, ⟨rfl, rfl, rfl, by simp, fun j _ hj => setRow_other W g j _ hj⟩⟩
  simp only [Instr.storeAt, Instr.sureAddr, Sem.run_bind, Sem.run_pure, Result.andThen_ok, run_storeVar_row (P := Try.prog) W g 91 91 _ #[.int .u64 a', .int .i64 b', .int .i64 c', .slice A n k] h (by kernel_rfl) rfl (by simp [Value.oneCell'])]
theorem part_load {W : World} {g : Nat} {a b c : Int} {v : Value} (h : W.heap[g]? = some (partO a b c v)) :
    (Instr.loadAt 91 (.pointer (some ⟨g, 0, none⟩))).run Try.prog W = .ok (.agg #[.int .u64 a, .int .i64 b, .int .i64 c, v]) W := by
  simp only [Instr.loadAt, Instr.sureAddr, Sem.run_bind, Sem.run_pure, Result.andThen_ok, run_loadVar_row (P := Try.prog) W g 91 91 _ (0, 0) _ h Try.underlying91 rfl (by kernel_rfl)]
theorem part_set {W : World} {g : Nat} {a b c : Int} {v : Value} (u : Value) (h : W.heap[g]? = some (partO a b c v)) : (W.setCell ⟨g, 3, none⟩ u).heap[g]? = some (partO a b c u) := by
  obtain ⟨hlt, hk⟩ := Array.getElem?_eq_some_iff.1 h
  show (W.heap.modify g _)[g]? = _
  rw [Array.getElem?_eq_getElem (by rw [Array.size_modify]; exact hlt), Array.getElem_modify_self, hk]
  rfl
theorem bits_or_nn (x y : Int) : 0 ≤ Go.bits .or .u64 x y := (bounds_u64 (wf_bits .or .u64 x y)).1
theorem numL_nn (l : List Int) : ∀ (k i : Nat) (n p : Int) (m q : Int), 0 ≤ n → numL l k i n p = .ok (m, q) → 0 ≤ m
  | 0, i, n, p, m, q, _, h => by simp only [numL] at h; cases h
  | k + 1, i, n, p, m, q, hn, h => by
    simp only [numL] at h
    split at h
    · cases h
    · split at h
      · cases h
      · split at h
        · injection h with h
          have h1 := congrArg Prod.fst h
          dsimp only at h1
          rw [← h1]
          exact bits_or_nn _ _
        · exact numL_nn l k _ _ _ m q (bits_or_nn _ _) h
theorem rdNum_range {l : List Int} {a e M n p x : Int} (hM : 0 ≤ M) (h : rdNum l a e M = (n, p, x)) : 0 ≤ n ∧ n ≤ M := by
  unfold rdNum at h
  split at h
  · obtain ⟨rfl, _⟩ := Prod.mk.inj h; omega
  · unfold upL at h
    cases hn : numL l 10 0 0 a with
    | error y => rw [hn] at h; obtain ⟨rfl, _⟩ := Prod.mk.inj h; omega
    | ok np =>
      obtain ⟨n', p'⟩ := np
      rw [hn] at h
      dsimp only at h
      by_cases hg : n' > M
      · rw [if_pos hg] at h; obtain ⟨rfl, _⟩ := Prod.mk.inj h; omega
      · rw [if_neg hg] at h
        obtain ⟨rfl, _⟩ := Prod.mk.inj h
        exact ⟨numL_nn l 10 0 0 a n' p' (by omega) hn, by omega⟩
def readV (l : List Int) : Option (Int × Int × Int × List Int) :=
  let r1 := rdNum l 0 0 4611686018427387904
  let r2 := rdNum l r1.2.1 r1.2.2 4096
  let r3 := rdNum l r2.2.1 r2.2.2 4096
  if r3.2.2 = 0 ∧ 0 < r1.1 ∧ r2.1 < r3.1 then
    (if (l.drop r3.2.1.toNat).length = 256 ∨ ((l.drop r3.2.1.toNat).length < 256 ∧ r2.1 = r3.1 - 1) then some (r1.1, r2.1, r3.1, l.drop r3.2.1.toNat) else none)
  else none
def ReadPost (w : World) : Option (Int × Int × Int × List Int) → Ending → World → Prop
  | some (id, at_, n, b), e, w' => ∃ v, e = .returned (.agg #[.int .u64 id, .int .i64 at_, .int .i64 n, v]) ∧ Kd.R (Kd.int .u8) 5 w' w.heap.size (fun _ => True) v b ∧ Below w.heap.size w w'
  | none, e, w' => e = .panicked fstopR ∧ Below w.heap.size w w'
theorem read_result {tmps : Array Value} {w : World} {p : Nat} {a b c : Int} {v : Value} (h2 : tmps[2]? = some (.pointer (some ⟨p, 0, none⟩))) (h : w.heap[p]? = some (partO a b c v)) :
    (results Try.f52 tmps).run Try.prog w = .ok (.agg #[.int .u64 a, .int .i64 b, .int .i64 c, v]) w := by
  have l0 : (loadVar 91 ⟨p, 0, none⟩).run Try.prog w = .ok (.agg #[.int .u64 a, .int .i64 b, .int .i64 c, v]) w := run_loadVar_row (P := Try.prog) w p 91 91 _ (0, 0) _ h Try.underlying91 rfl (by kernel_rfl)
  have hr : Try.f52.results = #[.cell 2 91] := by kernel_rfl
  have h2' : tmps.getD 2 undef = .pointer (some ⟨p, 0, none⟩) := by simp [Array.getD_eq_getD_getElem?, h2]
  unfold results
  rw [hr]
  simp [h2, l0, asAddr]
theorem IsRd.own {F : Nat → Prop} {w : World} {g : Nat} {l : List Int} {at_ e : Int} (h : IsRd w F g l at_ e) : F g := by
  obtain ⟨A, c, h1, _⟩ := h
  exact h1
set_option maxRecDepth 100000
set_option maxHeartbeats 4000000 in
theorem read_any {w : World} {A : Option Addr} {c : Nat} {l : List Int} (hC : Kd.C (Kd.int .u8) w A l.length l) (hc : l.length ≤ c) (hl : l.length < 140737488355328) :
    Calls Try.prog 52 #[.slice A l.length c] w (ReadPost w (readV l)) := by
  obtain ⟨id, p1, e1, h1⟩ : ∃ id p1 e1, rdNum l 0 0 4611686018427387904 = (id, p1, e1) := ⟨_, _, _, rfl⟩
  obtain ⟨at_, p2, e2, h2⟩ : ∃ at_ p2 e2, rdNum l p1 e1 4096 = (at_, p2, e2) := ⟨_, _, _, rfl⟩
  obtain ⟨n, p3, e3, h3⟩ : ∃ n p3 e3, rdNum l p2 e2 4096 = (n, p3, e3) := ⟨_, _, _, rfl⟩
  have g1 := rdNum_range (by omega) h1
  have g2 := rdNum_range (by omega) h2
  have g3 := rdNum_range (by omega) h3
  have hV : readV l = if e3 = 0 ∧ 0 < id ∧ at_ < n then (if (l.drop p3.toNat).length = 256 ∨ ((l.drop p3.toNat).length < 256 ∧ at_ = n - 1) then some (id, at_, n, l.drop p3.toNat) else none) else none := by
    unfold readV
    simp only [h1, h2, h3]
  obtain ⟨R, hR⟩ : ∃ R, readV l = R := ⟨_, rfl⟩
  rw [hR] at hV ⊢
  have HV := Aside0.mk hV
  have hb0 : Below w.heap.size w (w.alloc (partO 0 0 0 (.slice none 0 0))) := below_alloc (Below.refl _ _) _
  have hn0 : (w.alloc (partO 0 0 0 (.slice none 0 0))).heap[w.heap.size]? = some (partO 0 0 0 (.slice none 0 0)) := alloc_new _ _
  have hs0 : (w.alloc (partO 0 0 0 (.slice none 0 0))).heap.size = w.heap.size + 1 := by simp
  have HRN := Aside0.mk (NewReader_any (Kd.C_alloc hC (partO 0 0 0 (.slice none 0 0))) hc hl)
  have HL0 := Aside0.mk (And.intro hb0 (And.intro hn0 (And.intro hs0 hl)))
  have H1 := Aside0.mk h1
  have H2 := Aside0.mk h2
  have H3 := Aside0.mk h3
  have G1 := Aside0.mk g1
  have G2 := Aside0.mk g2
  have G3 := Aside0.mk g3
  have hw2 : IntKind.i64.wrap at_ = at_ := IntWalk.i64_in _ (by omega)
  have hw3 : IntKind.i64.wrap n = n := IntWalk.i64_in _ (by omega)
  clear hC hc hl hV hR hb0 hn0 hs0 h1 h2 h3 g1 g2 g3
  go_enter Try.func52, Try.ntmps52
  go_wp2_with fail
  refine HRN.out.mono ?_
  rintro en w1 ⟨g, rfl, hg, hI1, hb1⟩
  have q1 := (Mu.of_below hb1 (fun _ => False)).heap HL0.out.2.1 (fun h => h)
  have HQ1 := Aside0.mk (And.intro q1 (And.intro (below_step HL0.out.1 hb1) (show w.heap.size < g by have := HL0.out.2.2.1; omega)))
  have HI1 := Aside0.mk hI1
  have HF1 := Aside0.mk (show ∀ k, ((w.alloc (partO 0 0 0 (.slice none 0 0))).heap.size ≤ k ∧ k < w1.heap.size) → w.heap.size < k ∧ k < w1.heap.size from fun k hk => ⟨by have := HL0.out.2.2.1; omega, hk.2⟩)
  clear q1 hg hI1 hb1 HRN
  go_wp2_with fail
  refine (Num_any HI1.out (fun k hk => hk.2) (Int.le_refl 0) (by omega)).mono ?_
  rintro en w2 ⟨rfl, hI2, a2, b2, m2⟩
  rw [H1.out] at hI2 a2 b2 ⊢
  have HI2 := Aside0.mk hI2
  have HQ2 := Aside0.mk (And.intro (m2.heap HQ1.out.1 (by have := HQ1.out.2.2; omega)) (And.intro (Mu.below_of HQ1.out.2.1 m2 (fun k hk e => by have := HQ1.out.2.2; omega)) (And.intro a2 (And.intro b2 m2.size))))
  clear hI2 a2 b2 m2 HI1
  go_wp2_with fail
  refine (Num_any HI2.out (fun k hk => Nat.lt_of_lt_of_le hk.2 HQ2.out.2.2.2.2) HQ2.out.2.2.1 HQ2.out.2.2.2.1).mono ?_
  rintro en w3 ⟨rfl, hI3, a3, b3, m3⟩
  rw [H2.out] at hI3 a3 b3 ⊢
  have HI3 := Aside0.mk hI3
  have HQ3 := Aside0.mk (And.intro (m3.heap HQ2.out.1 (by have := HQ1.out.2.2; omega)) (And.intro (Mu.below_of HQ2.out.2.1 m3 (fun k hk e => by have := HQ1.out.2.2; omega)) (And.intro a3 (And.intro b3 (Nat.le_trans HQ2.out.2.2.2.2 m3.size)))))
  clear hI3 a3 b3 m3 HI2 HQ2
  go_wp2_with fail
  refine (Num_any HI3.out (fun k hk => Nat.lt_of_lt_of_le hk.2 HQ3.out.2.2.2.2) HQ3.out.2.2.1 HQ3.out.2.2.2.1).mono ?_
  rintro en w4 ⟨rfl, hI4, a4, b4, m4⟩
  rw [H3.out] at hI4 a4 b4 ⊢
  obtain ⟨W5, hW5⟩ : ∃ W5, w4.alloc (partO 0 0 0 (.slice none 0 0)) = W5 := ⟨_, rfl⟩
  have hp5 : W5.heap[w4.heap.size]? = some (partO 0 0 0 (.slice none 0 0)) := by rw [← hW5]; exact alloc_new _ _
  obtain ⟨W6, hst, hp6, m6⟩ := part_store id at_ n none 0 0 hp5
  have hs5 : W5.heap.size = w4.heap.size + 1 := by rw [← hW5]; simp
  have hb5 : Below w4.heap.size w4 W5 := by rw [← hW5]; exact below_alloc (Below.refl _ _) _
  have hI5 := hI4.mu (Mu.of_below hb5 (fun _ => False)) (fun _ _ h => h)
  have hgw := HQ1.out.2.2
  have hw1s := HQ3.out.2.2.2.2
  have hg1 : g < w1.heap.size := (HF1.out g hI4.own).2
  have hm4 := m4.size
  have hI6 := hI5.mu m6 (fun k hk e => by have := (HF1.out k hk).2; omega)
  have hr4 := m4.heap HQ3.out.1 (by omega)
  have hr6 := m6.heap ((Mu.of_below hb5 (fun _ => False)).heap hr4 (fun h => h)) (by have := heap_lt hr4; omega)
  have hB6 : Below w.heap.size w W6 := Mu.below_of (below_step (Mu.below_of HQ3.out.2.1 m4 (fun k hk e => by omega)) hb5) m6 (fun k hk e => by have := heap_lt hr4; omega)
  have hs6 := m6.size
  have HI6 := Aside0.mk hI6
  have HQ6 := Aside0.mk (And.intro hr6 (And.intro hp6 (And.intro hB6 (And.intro a4 (And.intro b4 (show w1.heap.size ≤ w4.heap.size by omega))))))
  have HS6 := Aside0.mk (show w4.heap.size < W6.heap.size ∧ w.heap.size < w4.heap.size by have := heap_lt hr4; omega)
  have HW5 := Aside0.mk hW5
  have x0 := blk_cell hp6 0
  have x1 := blk_cell hp6 1
  have x2 := blk_cell hp6 2
  clear hI4 a4 b4 m4 hp5 hp6 m6 hs5 hb5 hI5 hI6 hr4 hr6 hB6 hgw hw1s hg1 hm4 hs6 HI3 HQ3 hW5
  go_wp2_with (first | ((with_reducible refine gate_ (.store 91 (.tmp 4) (.tmp 15)) rfl ?_); rw [HW5.out]; refine wpList_storeR rfl _ _ _ rfl (by rfl) (by rfl) hst ?_) | fail)
  refine (err_any HI6.out).mono ?_
  rintro en w7 ⟨rfl, n7, hw7⟩
  have hI7 : IsRd w7 (fun k => (w.alloc (partO 0 0 0 (.slice none 0 0))).heap.size ≤ k ∧ k < w1.heap.size) g l p3 e3 := by rw [hw7]; exact HI6.out.mu (Mu.of_below (pw_below_drewN (Below.refl _ _) n7) (fun _ => False)) (fun _ _ h => h)
  have HI7 := Aside0.mk hI7
  have HQ7 : Aside0 (w7.heap[w.heap.size]? = some (partO 0 0 0 (.slice none 0 0)) ∧ w7.heap[w4.heap.size]? = some (partO id at_ n (.slice none 0 0)) ∧ Below w.heap.size w w7 ∧ w7.heap.size = W6.heap.size) := ⟨by rw [hw7]; exact ⟨HQ6.out.1, HQ6.out.2.1, pw_below_drewN HQ6.out.2.2.1 n7, rfl⟩⟩
  have x0 := blk_cell HQ7.out.2.1 0
  have x1 := blk_cell HQ7.out.2.1 1
  have x2 := blk_cell HQ7.out.2.1 2
  have HQ4 := Aside0.mk HQ6.out.2.2.2
  have gone : Aside0 (∀ w', w' = w7 → R = none → ReadPost w R (.panicked fstopR) w') := ⟨by rintro w' rfl rfl; exact ⟨rfl, HQ7.out.2.2.1⟩⟩
  clear hw7 hI7 HI6 HQ6
  by_cases c1 : e3 = 0
  case neg =>
    have hRn : R = none := HV.out.trans (if_neg (fun h => c1 h.1))
    have b1 : (e3 == 0) = false := beq_eq_false_iff_ne.2 c1
    clear c1 HV
    go_wp2_with fail
    refine (fasks_no rfl).mono ?_
    rintro en w8 ⟨rfl, rfl⟩
    exact ⟨rfl, by have := gone.out _ rfl hRn; rwa [hRn] at this⟩
  subst c1
  by_cases c2 : 0 < id
  case neg =>
    have hRn : R = none := HV.out.trans (if_neg (fun h => c2 h.2.1))
    have d2 : decide (0 < id) = false := decide_eq_false c2
    clear c2 HV
    go_wp2_with fail
    refine (fasks_no rfl).mono ?_
    rintro en w8 ⟨rfl, rfl⟩
    exact ⟨rfl, by have := gone.out _ rfl hRn; rwa [hRn] at this⟩
  have d2 : decide (0 < id) = true := decide_eq_true c2
  by_cases c3 : at_ < n
  case neg =>
    have hRn : R = none := HV.out.trans (if_neg (fun h => c3 h.2.2))
    have d3 : decide (at_ < n) = false := decide_eq_false c3
    clear c3 HV
    go_wp2_with fail
    refine (fasks_no rfl).mono ?_
    rintro en w8 ⟨rfl, rfl⟩
    exact ⟨rfl, by have := gone.out _ rfl hRn; rwa [hRn] at this⟩
  have d3 : decide (at_ < n) = true := decide_eq_true c3
  have HV2 := Aside0.mk (HV.out.trans (if_pos ⟨rfl, c2, c3⟩))
  clear HV c2 c3 gone
  go_wp2_with fail
  refine (fasks_ok rfl).mono ?_
  rintro en w8 ⟨rfl, rfl⟩
  clear d2 d3
  go_wp2_with fail
  refine (left_any HI7.out HQ4.out.1 HQ4.out.2.1).mono ?_
  rintro en w8 ⟨rfl, n8, hw8⟩
  have hI8 : IsRd w8 (fun k => (w.alloc (partO 0 0 0 (.slice none 0 0))).heap.size ≤ k ∧ k < w1.heap.size) g l p3 0 := by rw [hw8]; exact HI7.out.mu (Mu.of_below (pw_below_drewN (Below.refl _ _) n8) (fun _ => False)) (fun _ _ h => h)
  have HI8 := Aside0.mk hI8
  have HQ8 : Aside0 (w8.heap[w.heap.size]? = some (partO 0 0 0 (.slice none 0 0)) ∧ w8.heap[w4.heap.size]? = some (partO id at_ n (.slice none 0 0)) ∧ Below w.heap.size w w8 ∧ w8.heap.size = W6.heap.size) := ⟨by rw [hw8]; exact ⟨HQ7.out.1, HQ7.out.2.1, pw_below_drewN HQ7.out.2.2.1 n8, HQ7.out.2.2.2⟩⟩
  clear hw8 hI8 HI7 HQ7 x0 x1 x2
  go_wp2_with fail
  refine (Raw_any HI8.out (fun k hk => by have := HQ8.out.2.2.2; have := HQ4.out.2.2; have := HS6.out.1; omega) HQ4.out.1 HQ4.out.2.1 HL0.out.2.2.2 (by have := HL0.out.2.2.2; have := HQ4.out.1; omega)).mono ?_
  rintro en w9 ⟨⟨v9, rfl, hv9⟩, hI9, a9, b9, m9⟩
  have hraw : (rdRaw l p3 0 ((l.length : Int) - p3)).1 = l.drop p3.toNat := by
    have q0 := HQ4.out.1
    have q1 := HQ4.out.2.1
    unfold rdRaw rawM rawL
    rw [if_neg (by simp), if_neg (by omega), if_neg (by omega)]
    dsimp only
    rw [List.take_of_length_le (by rw [List.length_drop]; omega)]
  rw [hraw] at hv9
  obtain ⟨bb, hbb⟩ : ∃ bb, l.drop p3.toNat = bb := ⟨_, rfl⟩
  rw [hbb] at hv9 HV2
  obtain ⟨A9, c9, rfl, hc9, hC9⟩ := Kd.R_reads (show Kd.R (Kd.int .u8) 5 w9 w8.heap.size (fun _ => True) v9 bb from hv9)
  have hgS : w4.heap.size ≠ g := by
    have h1 := (HF1.out g HI8.out.own).2
    have h2 := HQ4.out.2.2
    omega
  have hgw : w.heap.size ≠ g := by have := HQ1.out.2.2; omega
  have hq9 := m9.heap HQ8.out.2.1 hgS
  have hr9 := m9.heap HQ8.out.1 hgw
  have y3 := blk_cell hq9 3
  have z3 := blk_frozen hq9 3
  have hq10 := part_set (.slice A9 bb.length c9) hq9
  have hr10 := (Below.heap_setCell w9 ⟨w4.heap.size, 3, none⟩ (.slice A9 bb.length c9) w.heap.size (by show w.heap.size ≠ w4.heap.size; have := HS6.out.2; omega)).trans hr9
  have hB9 : Below w.heap.size w w9 := Mu.below_of HQ8.out.2.2.1 m9 (fun k hk e => by have := HQ1.out.2.2; omega)
  have hB10 : Below w.heap.size w (w9.setCell ⟨w4.heap.size, 3, none⟩ (.slice A9 bb.length c9)) := hB9.setCell (p := ⟨w4.heap.size, 3, none⟩) (by show w.heap.size ≤ w4.heap.size; have := HS6.out.2; omega) _
  have hR10 : Kd.R (Kd.int .u8) 5 (w9.setCell ⟨w4.heap.size, 3, none⟩ (.slice A9 bb.length c9)) w8.heap.size (fun _ => True) (.slice A9 bb.length c9) bb := Kd.R_set hv9 hq9 (by decide) 3 _
  obtain ⟨W10, hW10⟩ : ∃ W10, w9.setCell ⟨w4.heap.size, 3, none⟩ (.slice A9 bb.length c9) = W10 := ⟨_, rfl⟩
  rw [hW10] at hq10 hr10 hB10 hR10
  have HQ10 := Aside0.mk (And.intro hr10 (And.intro hq10 (And.intro hB10 hR10)))
  have HW10 := Aside0.mk hW10
  have HS8 := Aside0.mk (show w.heap.size ≤ w8.heap.size ∧ w4.heap.size < w8.heap.size by have := HQ8.out.2.2.2; have := HS6.out; omega)
  clear hv9 hI9 a9 b9 m9 hraw hbb hc9 hC9 hgS hgw hq9 hr9 hq10 hr10 hB9 hB10 hR10 hW10 HI8 HQ8
  go_upto_region 5 with fail
  rw [HW10.out]
  have x1 := blk_cell HQ10.out.2.1 1
  have x2 := blk_cell HQ10.out.2.1 2
  have x3 := blk_cell HQ10.out.2.1 3
  clear y3 z3
  have hw4 : IntKind.i64.wrap (n - 1) = n - 1 := IntWalk.i64_in _ (by have := G3.out; omega)
  have hw5 : wrap64 (n - 1) = n - 1 := by rw [← i64_w]; exact hw4
  have fin : Aside0 ((bb.length = 256 ∨ (bb.length < 256 ∧ at_ = n - 1)) → ∀ W11, (Instr.storeAt 91 (.pointer (some ⟨w.heap.size, 0, none⟩)) (.agg #[.int .u64 id, .int .i64 at_, .int .i64 n, .slice A9 bb.length c9])).run Try.prog W10 = .ok () W11 → W11.heap[w.heap.size]? = some (partO id at_ n (.slice A9 bb.length c9)) → Mu (· = w.heap.size) W10 W11 → ReadPost w R (.returned (.agg #[.int .u64 id, .int .i64 at_, .int .i64 n, .slice A9 bb.length c9])) W11) := ⟨by
    intro hh W11 hs hp hm
    rw [HV2.out, if_pos hh]
    refine ⟨_, rfl, ?_, ?_⟩
    · have h1 := Kd.R_bound HQ10.out.2.2.2
      exact Kd.R_lower (Kd.R_mono (Kd.R_move h1 (fun k hk => hm.block k hk.2.2.1 (by have := hk.2.1; have := HS8.out.2; have := HS6.out.2; omega))) (fun _ _ => trivial)) HS8.out.1
    · exact Mu.below_of HQ10.out.2.2.1 hm (fun k hk e => by omega)⟩
  have gone : Aside0 (¬ (bb.length = 256 ∨ (bb.length < 256 ∧ at_ = n - 1)) → ∀ w', w' = W10 → ReadPost w R (.panicked fstopR) w') := ⟨by
    rintro hh w' rfl
    rw [HV2.out, if_neg hh]
    exact ⟨rfl, HQ10.out.2.2.1⟩⟩
  obtain ⟨W11, hst2, hp11, m11⟩ := part_store id at_ n A9 bb.length c9 HQ10.out.1
  have hld := part_load HQ10.out.2.1
  have H11 := Aside0.mk (And.intro hp11 m11)
  clear hp11 m11
  by_cases c4 : bb.length = 256
  · have d4 : ((bb.length : Int) == 256) = true := beq_iff_eq.2 (by omega)
    have HC4 := Aside0.mk c4
    clear c4
    go_wp2_with fail
    refine (fasks_ok rfl).mono ?_
    rintro en w12 ⟨rfl, rfl⟩
    clear x1 x2 x3
    go_wp2_with (first | ((with_reducible refine gate_ (.load 91 (.tmp 4)) rfl ?_); refine wpList_loadR rfl _ _ rfl (by rfl) hld ?_) | ((with_reducible refine gate_ (.store 91 (.tmp 2) (.tmp 56)) rfl ?_); refine wpList_storeR rfl _ _ _ rfl (by rfl) (by rfl) hst2 ?_) | fail)
    exact ⟨rfl, _, read_result rfl H11.out.1, fin.out (.inl HC4.out) _ hst2 H11.out.1 H11.out.2⟩
  have d4 : ((bb.length : Int) == 256) = false := beq_eq_false_iff_ne.2 (by omega)
  by_cases c5 : bb.length < 256
  case neg =>
    have d5 : decide ((bb.length : Int) < 256) = false := decide_eq_false (by omega)
    have HC := Aside0.mk (show ¬ (bb.length = 256 ∨ (bb.length < 256 ∧ at_ = n - 1)) from fun h => h.elim c4 (fun h => c5 h.1))
    clear c4 c5
    go_wp2_with fail
    refine (fasks_no rfl).mono ?_
    rintro en w12 ⟨rfl, rfl⟩
    exact ⟨rfl, gone.out HC.out _ rfl⟩
  have d5 : decide ((bb.length : Int) < 256) = true := decide_eq_true (by omega)
  by_cases c6 : at_ = n - 1
  case neg =>
    have d6 : (at_ == n - 1) = false := beq_eq_false_iff_ne.2 c6
    have HC := Aside0.mk (show ¬ (bb.length = 256 ∨ (bb.length < 256 ∧ at_ = n - 1)) from fun h => h.elim c4 (fun h => c6 h.2))
    clear c4 c5 c6
    go_wp2_with fail
    refine (fasks_no rfl).mono ?_
    rintro en w12 ⟨rfl, rfl⟩
    exact ⟨rfl, gone.out HC.out _ rfl⟩
  have d6 : (at_ == n - 1) = true := beq_iff_eq.2 c6
  have HC := Aside0.mk (show (bb.length = 256 ∨ (bb.length < 256 ∧ at_ = n - 1)) from .inr ⟨c5, c6⟩)
  clear c4 c5 c6
  go_wp2_with fail
  refine (fasks_ok rfl).mono ?_
  rintro en w12 ⟨rfl, rfl⟩
  clear x1 x2 x3 d6
  go_wp2_with (first | ((with_reducible refine gate_ (.load 91 (.tmp 4)) rfl ?_); refine wpList_loadR rfl _ _ rfl (by rfl) hld ?_) | ((with_reducible refine gate_ (.store 91 (.tmp 2) (.tmp 56)) rfl ?_); refine wpList_storeR rfl _ _ _ rfl (by rfl) (by rfl) hst2 ?_) | fail)
  exact ⟨rfl, _, read_result rfl H11.out.1, fin.out HC.out _ hst2 H11.out.1 H11.out.2⟩
end Go.Proofs.Ytdklanenmihpdaa.Hand
namespace Go.Proofs.Ytdklanenmihpdaa.Hand
open Go.RowKit Go.Maps Go.Proofs.YtdklanenmihpdaaW.PrintWords Go.Proofs.YtdklanenmihpdaaW.PrintLast Go.Proofs.Ytdklanenmihpdaa.PA
def noP : List Int := [-1]
def haveN : List (List Int) → Nat
  | [] => 0
  | p :: ps => (if p = noP then 0 else 1) + haveN ps
theorem haveN_le : ∀ ps, haveN ps ≤ ps.length
  | [] => Nat.le_refl _
  | p :: ps => by have := haveN_le ps; unfold haveN; rw [List.length_cons]; split <;> omega
theorem haveN_none : ∀ n, haveN (List.replicate n noP) = 0
  | 0 => rfl
  | n + 1 => by rw [List.replicate_succ, haveN, if_pos rfl, haveN_none n]
theorem haveN_set : ∀ (ps : List (List Int)) (i : Nat) (q : List Int), i < ps.length → haveN (ps.set i q) + (if ps.getD i noP = noP then 0 else 1) = haveN ps + (if q = noP then 0 else 1)
  | [], i, q, h => by simp at h
  | p :: ps, 0, q, _ => by simp only [List.set_cons_zero, haveN, List.getD_cons_zero]; omega
  | p :: ps, i + 1, q, h => by
    have := haveN_set ps i q (by simpa using h)
    simp only [List.set_cons_succ, haveN, List.getD_cons_succ]; omega
theorem noP_bytes {p : List Int} (h : ∀ x ∈ p, 0 ≤ x ∧ x < 256) : p ≠ noP := by
  rintro rfl
  have := h (-1) (by simp [noP])
  omega
def heldE : Value → Option (DataW Value × List MemPlace) := fun v => some (.held v, [])
abbrev gatO (id cnt : Int) (m : Option Nat) : Obj := .cells #[.int .u64 id, .int .i64 cnt, .map m] 85 (0, 0)
def kL (i : Nat) : Lit := .int .i64 (i : Int)
theorem kL_key (i : Nat) : WideAt.IsKeyLit (kL i) := trivial
theorem kL_ne {i j : Nat} (h : i ≠ j) : kL i ≠ kL j := by
  intro e
  unfold kL at e
  injection e with _ e
  omega
theorem kL_of {i : Nat} (h : i ≤ 4096) : keyOf Try.prog 3 (.int .i64 (i : Int)) = some (kL i) := Maps.keyOf_int_mk Try.underlying3 (WalkArith.wf_i64 (by omega))
theorem keyed : Keyed Try.prog 3 := Maps.int_keyed Try.underlying3
theorem zero_bytes (W : World) : (zeroValue 23).run Try.prog W = .ok (.slice none 0 0) W := by kernel_rfl
def PartAt (w : World) (ok : Nat → Prop) (D : DataW Value) (i : Nat) (p : List Int) : Prop :=
  (p = noP ∧ has D (kL i) = false) ∨ (p ≠ noP ∧ has D (kL i) = true ∧ ((∀ x ∈ p, 0 ≤ x ∧ x < 256) ∧ p.length ≤ 256) ∧ ∃ A c, (∀ z, D.atKey (kL i) z = .held (.slice A p.length c)) ∧ p.length ≤ c ∧ Kd.F (Kd.int .u8) w ok A p.length p)
structure MapAt (w : World) (own : Nat → Prop) (g b : Nat) (ps : List (List Int)) : Prop where
  big : ps.length ≤ 4096
  mine : own b
  ne : b ≠ g
  map : ∃ D, w.ownsMap Try.prog 3 heldE b (Maps.size D) D ∧ Maps.size D = haveN ps ∧ ∀ i, i < ps.length → PartAt w (fun k => own k ∧ k ≠ g ∧ k ≠ b) D i (ps.getD i noP)
def GatAt (w : World) (own : Nat → Prop) (g : Nat) (id cnt : Int) (ps : List (List Int)) : Prop :=
  own g ∧ ((id = 0 ∧ cnt = 0 ∧ ps = [] ∧ w.heap[g]? = some (gatO 0 0 none)) ∨ (1 ≤ id ∧ cnt = ps.length ∧ ∃ b, w.heap[g]? = some (gatO id cnt (some b)) ∧ MapAt w own g b ps))
theorem ownsMap_move {w w' : World} {b n : Nat} {D : DataW Value} (h : w.ownsMap Try.prog 3 heldE b n D) (hm : w'.heap[b]? = w.heap[b]?) : w'.ownsMap Try.prog 3 heldE b n D := by
  obtain ⟨es, clock, hb, r⟩ := h
  exact ⟨es, clock, hm.trans hb, r⟩
theorem ownsMap_tight {w : World} {b n : Nat} {D : DataW Value} (h : w.ownsMap Try.prog 3 heldE b n D) : w.ownsMap Try.prog 3 heldE b (Maps.size D) D := by
  obtain ⟨es, clock, hb, F, hs, rfl⟩ := h
  refine ⟨es, clock, hb, F, ?_, rfl⟩
  simp [Maps.size, length_sorted]
theorem PartAt.step {w w' : World} {ok ok' : Nat → Prop} {D : DataW Value} {i : Nat} {p : List Int} (h : PartAt w ok D i p) (hm : ∀ k, ok k → k < w.heap.size → w'.heap[k]? = w.heap[k]?) (hok : ∀ k, ok k → ok' k) : PartAt w' ok' D i p := by
  rcases h with h | ⟨h1, h2, hb, A, c, h3, h4, h5⟩
  · exact .inl h
  · exact .inr ⟨h1, h2, hb, A, c, h3, h4, Kd.F_mono (Kd.F_step h5 hm) hok⟩
theorem MapAt.lt {w : World} {own : Nat → Prop} {g b : Nat} {ps : List (List Int)} (h : MapAt w own g b ps) : b < w.heap.size := by
  obtain ⟨D, h1, _⟩ := h.map
  exact h1.lt
theorem MapAt.step {w w' : World} {own : Nat → Prop} {g b : Nat} {ps : List (List Int)} (h : MapAt w own g b ps) (hm : ∀ k, own k → k ≠ g → k < w.heap.size → w'.heap[k]? = w.heap[k]?) : MapAt w' own g b ps := by
  have hlt := h.lt
  obtain ⟨D, h1, h2, h3⟩ := h.map
  exact ⟨h.big, h.mine, h.ne, D, ownsMap_move h1 (hm b h.mine h.ne hlt), h2, fun i hi => (h3 i hi).step (fun k hk hl => hm k hk.1 hk.2.1 hl) (fun _ hk => hk)⟩
theorem GatAt.step {w w' : World} {own : Nat → Prop} {g : Nat} {id cnt : Int} {ps : List (List Int)} (h : GatAt w own g id cnt ps) (hm : ∀ k, own k → k < w.heap.size → w'.heap[k]? = w.heap[k]?) : GatAt w' own g id cnt ps := by
  obtain ⟨hg, ⟨h1, h2, h3, h4⟩ | ⟨h1, h2, b, h4, h5⟩⟩ := h
  · exact ⟨hg, .inl ⟨h1, h2, h3, (hm g hg (heap_lt h4)).trans h4⟩⟩
  · exact ⟨hg, .inr ⟨h1, h2, b, (hm g hg (heap_lt h4)).trans h4, h5.step (fun k hk _ hl => hm k hk hl)⟩⟩
theorem GatAt.below {w w' : World} {own : Nat → Prop} {g : Nat} {id cnt : Int} {ps : List (List Int)} (h : GatAt w own g id cnt ps) (hb : Below w.heap.size w w') : GatAt w' own g id cnt ps := h.step (fun k _ hl => hb.block k hl)
theorem look_none {w : World} {b i : Nat} {ok : Nat → Prop} {D : DataW Value} (hi : i ≤ 4096) (hp : PartAt w ok D i noP) : ∀ (W : World) (n : Nat), W.ownsMap Try.prog 3 heldE b n D →
    (Instr.lookup 83 (.map (some b)) (.int .i64 (i : Int)) true).run Try.prog W = .ok (.tuple #[.slice none 0 0, .bool false]) W := by
  intro W n h
  obtain ⟨v, q, hrun, hv⟩ := h.look_ok keyed Try.underlying83 (zero_bytes W) (zd := .held (.slice none 0 0)) (zp := []) rfl (kL_of hi)
  have hv2 : DataW.held v = D.atKey (kL i) (.held (.slice none 0 0)) := congrArg Prod.fst (Option.some.inj hv)
  rcases hp with ⟨_, h2⟩ | ⟨h1, _⟩
  · rw [atKey_of_not_has h2] at hv2
    obtain rfl : v = .slice none 0 0 := by injection hv2
    rw [hrun, h2]
  · exact absurd rfl h1
theorem look_some {w : World} {b i : Nat} {ok : Nat → Prop} {D : DataW Value} {p : List Int} (hi : i ≤ 4096) (hp : PartAt w ok D i p) (hne : p ≠ noP) :
    ∃ A c, (∀ (W : World) (n : Nat), W.ownsMap Try.prog 3 heldE b n D → (Instr.lookup 83 (.map (some b)) (.int .i64 (i : Int)) true).run Try.prog W = .ok (.tuple #[.slice A p.length c, .bool true]) W) ∧
      (∀ (W : World) (n : Nat), W.ownsMap Try.prog 3 heldE b n D → (Instr.lookup 83 (.map (some b)) (.int .i64 (i : Int)) false).run Try.prog W = .ok (.slice A p.length c) W) ∧ p.length ≤ c ∧ Kd.F (Kd.int .u8) w ok A p.length p ∧ (∀ x ∈ p, 0 ≤ x ∧ x < 256) ∧ p.length ≤ 256 := by
  rcases hp with ⟨e, _⟩ | ⟨h1, h2, hb, A, c, h3, h4, h5⟩
  · exact absurd e hne
  refine ⟨A, c, fun W n h => ?_, fun W n h => ?_, h4, h5, hb⟩
  · obtain ⟨v, q, hrun, hv⟩ := h.look_ok keyed Try.underlying83 (zero_bytes W) (zd := .held (.slice none 0 0)) (zp := []) rfl (kL_of hi)
    have hv2 : DataW.held v = D.atKey (kL i) (.held (.slice none 0 0)) := congrArg Prod.fst (Option.some.inj hv)
    rw [h3] at hv2
    obtain rfl : v = .slice A p.length c := by injection hv2
    rw [hrun, h2]
  · obtain ⟨v, q, hrun, hv⟩ := h.lookup keyed Try.underlying83 (zero_bytes W) (zd := .held (.slice none 0 0)) (zp := []) rfl (kL_of hi)
    have hv2 : DataW.held v = D.atKey (kL i) (.held (.slice none 0 0)) := congrArg Prod.fst (Option.some.inj hv)
    rw [h3] at hv2
    obtain rfl : v = .slice A p.length c := by injection hv2
    exact hrun
theorem look_any {b i : Nat} {D : DataW Value} (hi : i ≤ 4096) : ∃ v x, ∀ (W : World) (n : Nat), W.ownsMap Try.prog 3 heldE b n D →
    (Instr.lookup 83 (.map (some b)) (.int .i64 (i : Int)) true).run Try.prog W = .ok (.tuple #[v, .bool x]) W := by
  by_cases hex : ∃ v, DataW.held v = D.atKey (kL i) (.held (.slice none 0 0))
  · obtain ⟨v, hv⟩ := hex
    refine ⟨v, has D (kL i), fun W n h => ?_⟩
    obtain ⟨v', q, hrun, hv'⟩ := h.look_ok keyed Try.underlying83 (zero_bytes W) (zd := .held (.slice none 0 0)) (zp := []) rfl (kL_of hi)
    have hv2 : DataW.held v' = D.atKey (kL i) (.held (.slice none 0 0)) := congrArg Prod.fst (Option.some.inj hv')
    rw [← hv] at hv2
    obtain rfl : v' = v := by injection hv2
    exact hrun
  · refine ⟨undef, false, fun W n h => ?_⟩
    obtain ⟨v', q, hrun, hv'⟩ := h.look_ok keyed Try.underlying83 (zero_bytes W) (zd := .held (.slice none 0 0)) (zp := []) rfl (kL_of hi)
    exact absurd ⟨v', congrArg Prod.fst (Option.some.inj hv')⟩ hex
theorem map_store {w : World} {own : Nat → Prop} {g b i : Nat} {ps : List (List Int)} {q : List Int} {A : Option Addr} {c : Nat} (h : MapAt w own g b ps) (hi : i < ps.length) (hq : ∀ x ∈ q, 0 ≤ x ∧ x < 256) (hq2 : q.length ≤ 256) (hc : q.length ≤ c)
    (hF : Kd.F (Kd.int .u8) w (fun k => own k ∧ k ≠ g ∧ k ≠ b) A q.length q) :
    ∃ w', (Instr.mapUpdate 83 (.map (some b)) (.int .i64 (i : Int)) (.slice A q.length c)).run Try.prog w = .ok () w' ∧ MapAt w' own g b (ps.set i q) ∧ w.grownBy w' (some b) := by
  have hbig := h.big
  obtain ⟨D, h1, h2, h3⟩ := h.map
  have hn : Maps.size D < maxLen := by
    rw [h2]
    have := haveN_le ps
    unfold maxLen
    omega
  have htd := h1.tidy keyed
  obtain ⟨w', hrun, ho, hg⟩ := h1.update keyed Try.underlying83 hn (key := .int .i64 (i : Int)) (val := .slice A q.length c) (kL_of (by omega)) (d := .held (.slice A q.length c)) (ps := []) rfl
  refine ⟨w', hrun, ⟨by rw [List.length_set]; exact hbig, h.mine, h.ne, D.put (kL i) (.held (.slice A q.length c)), ownsMap_tight ho, ?_, fun j hj => ?_⟩, hg⟩
  · rw [size_put htd, h2]
    have hs := haveN_set ps i q hi
    rw [if_neg (noP_bytes hq)] at hs
    rcases h3 i hi with ⟨e1, e2⟩ | ⟨e1, e2, _⟩
    · rw [e2]; rw [if_pos e1] at hs; simp; omega
    · rw [e2]; rw [if_neg e1] at hs; simp; omega
  · rw [List.length_set] at hj
    by_cases hji : j = i
    · subst hji
      have e : (ps.set j q).getD j noP = q := by rw [List.getD_eq_getElem?_getD, List.getElem?_set_self hj]; rfl
      rw [e]
      refine .inr ⟨noP_bytes hq, has_put_same htd.isMap (kL_key j) _, ⟨hq, hq2⟩, A, c, fun z => atKey_put_same htd.isMap (kL_key j) _ z, hc, Kd.F_step hF (fun k hk hl => hg.block k hl (by have := hk.2.2; simpa using this))⟩
    · have e : (ps.set i q).getD j noP = ps.getD j noP := by rw [List.getD_eq_getElem?_getD, List.getElem?_set_ne (Ne.symm hji), List.getD_eq_getElem?_getD]
      rw [e]
      have hk : kL j ≠ kL i := kL_ne hji
      have h4 := (h3 j hj).step (w' := w') (fun k hk hl => hg.block k hl (by have := hk.2.2; simpa using this)) (fun _ hk => hk)
      rcases h4 with ⟨e1, e2⟩ | ⟨e1, e2, e3, A', c', e4, e5⟩
      · exact .inl ⟨e1, by rw [has_put_other hk]; exact e2⟩
      · exact .inr ⟨e1, by rw [has_put_other hk]; exact e2, e3, A', c', fun z => by rw [atKey_put_other hk]; exact e4 z, e5⟩
theorem map_len {w : World} {own : Nat → Prop} {g b : Nat} {ps : List (List Int)} (h : MapAt w own g b ps) (ty : TypeId) : (Builtin.len_ #[83] ty #[.map (some b)]).run Try.prog w = .ok (.int .i64 (haveN ps)) w := by
  obtain ⟨D, h1, h2, _⟩ := h.map
  rw [← h2]
  exact h1.len Try.underlying83 ty
end Go.Proofs.Ytdklanenmihpdaa.Hand
