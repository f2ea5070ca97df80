/- Texts of this claim, put together. -/
import Derived.ProofKit
import Derived.OpenShut
import Derived.DataReads
import Derived.DataElems
import Derived.SizedLaws
import Derived.Laws.Cover2
import Derived.Test.YtlgfmmkabnbllaaDoorMSBWWords
import Derived.Test.YtlgfmmkabnbllaaDoorProg
import Derived.WalkKit
import Derived.WalkSpells
import Derived.WalkLawsBesides
import Derived.Defers
import Derived.Recover
import Derived.Deep.QuietTactic
import Derived.BigQuiet
import Derived.Test.YtlgfmmkabnbllaaDoorMSBWMore
import Derived.Test.YtlgfmmkabnbllaaDoorMSBWLast
import Derived.Below
import Derived.Deep.Draws
import Derived.Deep.AppendLies
import Derived.Maps.AppendAt
import Derived.OwnWalk
import Derived.Laws.BytesArg
import Derived.Laws.MakeOwn
import Derived.Laws.OwnMore
import Derived.Deep.OwnRows
import Derived.Tactics
import Derived.Lib.ConvBytes
import Derived.Laws.Slices
import Derived.KernelRfl
import Derived.RowKit3
import Derived.Deep.LoopGhost
import Derived.WideLaws
import Derived.Deep.DeepCutAuto
import Derived.Deep.CutBlock
import Derived.Deep.RegionHeld3
import Derived.Laws.Rows
import Derived.Lib.AppendStr
import Derived.ArgAppend
import Derived.Laws.IdiomCopy
import Derived.OrdersHeld
import Derived.Laws.BitsLemmas
import Derived.RowKit
import Derived.Test.YtlgfmmkabnbllaaDoorMSBWTab
import Derived.Test.YtlgfmmkabnbllaaDoorMSBWApart
import Derived.Test.YtlgfmmkabnbllaaDoorMSBWFoot
import Derived.Test.YtlgfmmkabnbllaaDoorMSBWShare
import Derived.Test.YtlgfmmkabnbllaaDoorMSBWN
import Derived.Laws.StructEq
import Derived.Test.YtlgfmmkabnbllaaDoorMSBWRepsOne
import Derived.Test.YtlgfmmkabnbllaaDoorMSBWInv
import Derived.Test.YtlgfmmkabnbllaaDoorMSBWGuard
import Derived.Test.YtlgfmmkabnbllaaDoorMSBWNEv
import Derived.Shelf.Bytes.SlJoin
import Derived.Laws.BitsAllLaws
import Derived.Laws.Tables
import Derived.Shelf.Strconv.Itoa3
import Derived.Lib.AppendIntMem
import Derived.Test.YtlgfmmkabnbllaaDoorRows
import Derived.LaidMore
import Derived.Stop.Joined
import Derived.Stop.LaidErr
import Derived.Lib.LaidTab
import Derived.Lib.SlBytesConst
import Derived.Lib.SlFresh
set_option linter.unusedVariables false
set_option linter.unusedSimpArgs false
namespace Go.Proofs.YtlgfmmkabnbllaaDoor.Opens
open Go.RowKit Go.Proofs.YtlgfmmkabnbllaaDoorW.PrintWords
variable {P : Program}
def Opens {α : Type} (P : Program) (t : TypeId) (d : Kd α) (Q : α → Prop) : Prop :=
  ∀ (H : Type) (enc : TypeId × Value → H) (w : World) (base : Nat) (spare : Nat → Bool) (held : Bool) (fuel : Nat) (cs : List Value) (x : DataW H × List MemPlace),
    DataW.trod enc P w base spare held fuel t cs = some x → ∃ a, d.K w a cs ∧ Q a
theorem o_int {t : TypeId} {k : IntKind} (h : P.underlying t = some (.int k)) : Opens P t (Kd.int k) (fun n => (Lit.int k n).wf = true) := by
  intro H enc w base spare held fuel cs x hx
  obtain ⟨n, rfl, _, hw⟩ := DataW.trod_int h hx
  exact ⟨n, rfl, hw⟩
theorem o_map {α β : Type} {t : TypeId} {d : Kd α} {Q : α → Prop} (h : Opens P t d Q) (f : β → α) (g : α → β) (hfg : ∀ x, f (g x) = x) : Opens P t (Kd.iso d f) (fun b => Q (f b)) := by
  intro H enc w base spare held fuel cs x hx
  obtain ⟨a, ha, hq⟩ := h H enc w base spare held fuel cs x hx
  exact ⟨g a, by show d.K w (f (g a)) cs; rw [hfg]; exact ha, by show Q (f (g a)); rw [hfg]; exact hq⟩
theorem mapM_get {α β : Type} {f : α → Option β} : ∀ {l : List α} {r : List β}, l.mapM f = some r → r.length = l.length ∧ ∀ (i : Nat) a, l[i]? = some a → ∃ b, f a = some b ∧ r[i]? = some b
  | [], r, h => by
    simp at h
    subst h
    exact ⟨rfl, fun i a h => by simp at h⟩
  | x :: l, r, h => by
    rw [List.mapM_cons] at h
    cases hx : f x with
    | none => simp [hx] at h
    | some y =>
      cases hl : l.mapM f with
      | none => simp [hx, hl] at h
      | some ys =>
        simp [hx, hl] at h
        subst h
        obtain ⟨h1, h2⟩ := mapM_get hl
        refine ⟨by simp [h1], fun i a ha => ?_⟩
        cases i with
        | zero =>
          simp at ha
          subst ha
          exact ⟨y, hx, by simp⟩
        | succ i => exact h2 i a (by simpa using ha)
abbrev kFloat (k : FloatKind) : Kd Nat := Kd.scalar (Value.float k) (fun _ => rfl)
theorem sized_any {H : Type} {enc : TypeId × Value → H} {W : World} {base : Nat} {spare : Nat → Bool} {held : Bool} {t e : TypeId} {a : Option Addr} {len cap : Nat} {d : DataW H} {ps : List MemPlace} {ts : List TypeId} {ds : List (DataW H)} {j : Nat}
    (hsz : (DataW.weightsEach P ts ds).all (· ≤ reachBytes) = true) (ht : ts[j]? = some t) (hd : ds[j]? = some d) (hu : P.underlying t = some (.slice e))
    (h : DataW.Trod enc P W base spare held t (.slice a len cap) d ps) : len * P.bytesOf e ≤ 140737488351232 := by
  obtain ⟨fuel, hf⟩ := h
  cases fuel with
  | zero => simp [DataW.trod] at hf
  | succ n =>
    unfold DataW.trod at hf
    rw [hu] at hf
    simp only [Value.cells] at hf
    split at hf
    all_goals first | (exfalso; simp_all; done) | skip
    · rename_i he
      simp at he
      obtain ⟨_, rfl, _⟩ := he
      simp
    · rename_i e' a' len' cap' he1 he2
      obtain rfl : e = e' := by simpa using he1
      simp at he2
      obtain ⟨rfl, rfl, rfl⟩ := he2
      split at hf
      · rw [Option.bind_eq_some_iff] at hf
        obtain ⟨elems, hm, hf⟩ := hf
        rw [Option.map_eq_some_iff] at hf
        obtain ⟨rest, _, hf⟩ := hf
        obtain ⟨hx, _⟩ := Prod.mk.inj hf
        subst hx
        have z := sized_slice hsz ht hd hu
        have hl := (mapM_get hm).1
        rw [List.length_range] at hl
        rw [List.length_map, List.length_map, hl] at z
        have : len * P.bytesOf e ≤ (len + rest.length) * P.bytesOf e := Nat.mul_le_mul_right _ (by omega)
        have z2 : reachBytes = 140737488351232 := rfl
        omega
      · cases hf
def OpensF {α : Type} (P : Program) (fs : List Field) (off : Nat) (d : Kd α) (Q : α → Prop) : Prop :=
  ∀ (H : Type) (enc : TypeId × Value → H) (w : World) (base : Nat) (spare : Nat → Bool) (held : Bool) (n : Nat) (cs : List Value), cs.length = off + d.sz →
    (∀ (i : Nat) (f : Field), fs[i]? = some f → ∃ x, DataW.trod enc P w base spare held n f.type ((cs.drop f.offset).take (P.cellsOf f.type)) = some x) → ∃ a, d.K w a (cs.drop off) ∧ Q a
theorem f_last {α : Type} {f : Field} {off : Nat} {d : Kd α} {Q : α → Prop} (ho : f.offset = off) (hc : P.cellsOf f.type = d.sz) (h : Opens P f.type d Q) : OpensF P [f] off d Q := by
  intro H enc w base spare held n cs hl hx
  obtain ⟨x, hx⟩ := hx 0 f rfl
  obtain ⟨a, ha, hq⟩ := h H enc w base spare held n _ x hx
  refine ⟨a, ?_, hq⟩
  rw [ho, hc, List.take_of_length_le (by simp; omega)] at ha
  exact ha
theorem f_cons {α β : Type} {f : Field} {fs : List Field} {off : Nat} {d : Kd α} {Q : α → Prop} {d' : Kd β} {Q' : β → Prop} (ho : f.offset = off) (hc : P.cellsOf f.type = d.sz) (h : Opens P f.type d Q)
    (hs : OpensF P fs (off + d.sz) d' Q') : OpensF P (f :: fs) off (Kd.pair d d') (fun x => Q x.1 ∧ Q' x.2) := by
  intro H enc w base spare held n cs hl hx
  have hl' : cs.length = off + (d.sz + d'.sz) := hl
  obtain ⟨x, hx0⟩ := hx 0 f rfl
  obtain ⟨a, ha, hq⟩ := h H enc w base spare held n _ x hx0
  obtain ⟨b, hb, hq'⟩ := hs H enc w base spare held n cs (by omega) (fun i f hf => hx (i + 1) f hf)
  rw [ho, hc] at ha
  refine ⟨(a, b), ⟨(cs.drop off).take d.sz, cs.drop (off + d.sz), ?_, ha, hb⟩, hq, hq'⟩
  rw [← List.drop_drop, List.take_append_drop]
theorem o_struct {α : Type} {t : TypeId} {fs : Array Field} {d : Kd α} {Q : α → Prop} (ht : P.underlying t = some (.struct fs)) (hc : P.cellsOf t = d.sz) (h : OpensF P fs.toList 0 d Q) : Opens P t d Q := by
  intro H enc w base spare held fuel cs x hx
  obtain ⟨xs, n, _, _, hl, hxs, hf⟩ := DataW.trod_struct ht hx
  have := h H enc w base spare held n cs (by omega) (fun i f hi => by
    rw [Array.getElem?_toList] at hi
    rw [hf i f hi]
    have : i < fs.size := by
      rcases Nat.lt_or_ge i fs.size with g | g
      · exact g
      · rw [Array.getElem?_eq_none g] at hi; cases hi
    exact ⟨_, List.getElem?_eq_getElem (by omega)⟩)
  simpa using this
theorem cells_get {w : World} {base : Nat} {a : Addr} {n : Nat} {cs : List Value} (h : w.cells? base a n = some cs) : cs.length = n ∧ ∀ (i : Nat) u, cs[i]? = some u → w.cell? (a.add i) = some u := by
  obtain ⟨_, hl, hi⟩ := World.cells?_some h
  refine ⟨hl, fun i u hu => ?_⟩
  have : i < n := by
    rcases Nat.lt_or_ge i cs.length with g | g
    · omega
    · rw [List.getElem?_eq_none g] at hu; cases hu
  rw [hi i this, hu]
theorem o_slice {α : Type} {t e : TypeId} {d : Kd α} {Q : α → Prop} (ht : P.underlying t = some (.slice e)) (hc : P.cellsOf e = d.sz) (h : Opens P e d Q) :
    Opens P t (Kd.slice e d) (fun l => l.length ≤ maxLen ∧ ∀ x ∈ l, Q x) := by
  intro H enc w base spare held fuel cs x hx
  cases fuel with
  | zero => simp [DataW.trod] at hx
  | succ n =>
    unfold DataW.trod at hx
    rw [ht] at hx
    split at hx
    all_goals first | (exfalso; simp_all; done) | skip
    · exact ⟨[], ⟨none, 0, rfl, Nat.le_refl _, Kd.C_nil _ _⟩, Nat.zero_le _, fun _ h => by cases h⟩
    · rename_i e' a len cap he
      obtain rfl : e = e' := by simpa using he
      split at hx
      · rename_i hb
        obtain ⟨hb1, hb2, hb3⟩ := hb
        rw [Option.bind_eq_some_iff] at hx
        obtain ⟨elems, hm, _⟩ := hx
        obtain ⟨hl, hg⟩ := mapM_get hm
        rw [List.length_range] at hl
        have each : ∀ i, i < len → ∃ c : List Value, c.length = d.sz ∧ (∃ a, d.K w a c ∧ Q a) ∧ ∀ j u, c[j]? = some u → w.cell? (a.add (i * d.sz + j)) = some u := by
          intro i hi
          obtain ⟨b, hb, _⟩ := hg i i (by simp [hi])
          rw [Option.bind_eq_some_iff] at hb
          obtain ⟨c, hc1, hc2⟩ := hb
          obtain ⟨hl1, hl2⟩ := cells_get hc1
          obtain ⟨z, hz, hq⟩ := h H enc w base spare held n c b hc2
          refine ⟨c, by omega, ⟨z, hz, hq⟩, fun j u hu => ?_⟩
          have := hl2 j u hu
          rw [hc] at this
          rw [← this, Addr.add_add]
        have pick : ∀ m, m ≤ len → ∃ l : List α, l.length = m ∧ (∀ x ∈ l, Q x) ∧ ∀ j p, l[j]? = some p → ∃ c : List Value, c.length = d.sz ∧ d.K w p c ∧ ∀ i u, c[i]? = some u → w.cell? (a.add (j * d.sz + i)) = some u := by
          intro m
          induction m with
          | zero => exact fun _ => ⟨[], rfl, fun _ h => by (cases h), fun j p h => by simp at h⟩
          | succ m ih =>
            intro hm
            obtain ⟨l, h1, h2, h3⟩ := ih (by omega)
            obtain ⟨c, c1, ⟨z, c2, c3⟩, c4⟩ := each m (by omega)
            refine ⟨l ++ [z], by simp [h1], ?_, ?_⟩
            · intro x hx
              rcases List.mem_append.1 hx with hx | hx
              · exact h2 x hx
              · rw [List.mem_singleton.1 hx]; exact c3
            · intro j p hp
              rcases Nat.lt_or_ge j m with g | g
              · rw [List.getElem?_append_left (by omega)] at hp
                exact h3 j p hp
              · rw [List.getElem?_append_right (by omega)] at hp
                have hj : j = m := by
                  rcases Nat.lt_or_ge (j - l.length) 1 with g2 | g2
                  · omega
                  · rw [List.getElem?_eq_none (by simpa using g2)] at hp; cases hp
                subst hj
                rw [h1, Nat.sub_self] at hp
                simp at hp
                subst hp
                exact ⟨c, c1, c2, c4⟩
        obtain ⟨l, l1, l2, l3⟩ := pick len (Nat.le_refl _)
        subst l1
        refine ⟨l, ⟨some a, cap, rfl, hb2, ⟨rfl, ?_, fun _ => ⟨a, rfl, l3⟩⟩⟩, Nat.le_trans hb2 hb3, l2⟩
        have : maxLen ≤ 9223372036854775807 := by unfold maxLen; omega
        omega
      · cases hx
theorem open_arg {α : Type} {t : TypeId} {d : Kd α} {Q : α → Prop} (h : Opens P t d Q) {H : Type} {enc : TypeId × Value → H} {w : World} {base : Nat} {spare : Nat → Bool} {held : Bool} {v : Value} {D : DataW H} {ps : List MemPlace}
    (hx : DataW.Trod enc P w base spare held t v D ps) : ∃ a, d.K w a v.cells.toList ∧ Q a := by
  obtain ⟨fuel, hf⟩ := hx
  exact h H enc w base spare held fuel _ _ hf
theorem agg_of {r : Reach} {b0 : Nat} {t : TypeId} {fs : Array Field} {w : World} {v : Value} (hs : P.underlying t = some (.struct fs)) (hv : Value.okWide P w r b0 t v) {cs : List Value} (h : v.cells.toList = cs) : v = .agg cs.toArray := by
  obtain ⟨c, rfl, _⟩ := WideShapes.okWide_struct hs hv
  subst h
  simp [Value.cells]
end Go.Proofs.YtlgfmmkabnbllaaDoor.Opens
namespace Go.Proofs.YtlgfmmkabnbllaaDoor.Hand
open Go.RowKit Go.Proofs.YtlgfmmkabnbllaaDoorW.PrintWords Go.Proofs.YtlgfmmkabnbllaaDoorW.PrintLast
structure Mu (S : Nat → Prop) (w w' : World) : Prop where
  os : w'.os = w.os
  tape : w'.tape = w.tape
  output : w'.output = w.output
  size : w.heap.size ≤ w'.heap.size
  block : ∀ k, k < w.heap.size → ¬ S k → w'.heap[k]? = w.heap[k]?
theorem Mu.refl (S : Nat → Prop) (w : World) : Mu S w w := ⟨rfl, rfl, rfl, Nat.le_refl _, fun _ _ _ => rfl⟩
theorem Mu.trans {S : Nat → Prop} {a b c : World} (h : Mu S a b) (k : Mu S b c) : Mu S a c :=
  ⟨k.os.trans h.os, k.tape.trans h.tape, k.output.trans h.output, Nat.le_trans h.size k.size, fun i hi hs => (k.block i (Nat.lt_of_lt_of_le hi h.size) hs).trans (h.block i hi hs)⟩
theorem Mu.mono {S T : Nat → Prop} {w w' : World} (h : Mu S w w') (hST : ∀ k, k < w.heap.size → S k → T k) : Mu T w w' := ⟨h.os, h.tape, h.output, h.size, fun k hk ht => h.block k hk (fun hs => ht (hST k hk hs))⟩
theorem Mu.drewN {S : Nat → Prop} {a w : World} (h : Mu S a w) (n : Nat) : Mu S a (w.drewN n) := ⟨h.os, h.tape, h.output, h.size, h.block⟩
theorem Mu.drew {S : Nat → Prop} {a w : World} (h : Mu S a w) : Mu S a w.drew := ⟨h.os, h.tape, h.output, h.size, h.block⟩
theorem Mu.alloc {S : Nat → Prop} {a w : World} (h : Mu S a w) (o : Obj) : Mu S a (w.alloc o) :=
  h.trans ⟨rfl, rfl, rfl, by simp, fun k hk _ => Below.heap_alloc _ _ _ hk⟩
theorem Mu.setCell {S : Nat → Prop} {a w : World} (h : Mu S a w) {p : Addr} (hp : p.block < a.heap.size → S p.block) (u : Value) : Mu S a (w.setCell p u) :=
  ⟨h.os, h.tape, h.output, by simpa [World.setCell] using h.size, fun k hk hs => (Below.heap_setCell _ _ _ _ (fun e => hs (by rw [e]; exact hp (by omega)))).trans (h.block k hk hs)⟩
theorem Mu.of_below {w w' : World} (h : Below w.heap.size w w') (S : Nat → Prop) : Mu S w w' := ⟨h.os, h.tape, h.output, h.size, fun k hk _ => h.block k hk⟩
theorem Mu.below_of {S : Nat → Prop} {w0 w w' : World} (hb : Below w0.heap.size w0 w) (h : Mu S w w') (hS : ∀ k, k < w0.heap.size → ¬ S k) : Below w0.heap.size w0 w' :=
  hb.trans ⟨h.os, h.tape, h.output, h.size, fun k hk => h.block k (Nat.lt_of_lt_of_le hk hb.size) (hS k hk)⟩
theorem heap_lt {w : World} {g : Nat} {o : Obj} (h : w.heap[g]? = some o) : g < w.heap.size := by
  rcases Nat.lt_or_ge g w.heap.size with h1 | h1
  · exact h1
  · rw [Array.getElem?_eq_none h1] at h; cases h
theorem Mu.heap {S : Nat → Prop} {w w' : World} (h : Mu S w w') {g : Nat} {o : Obj} (hg : w.heap[g]? = some o) (hs : ¬ S g) : w'.heap[g]? = some o := (h.block g (heap_lt hg) hs).trans hg
theorem C_mu {k : IntKind} {S : Nat → Prop} {w w' : World} (h : Mu S w w') {A : Option Addr} {n : Nat} {l : List Int} (hC : Kd.C (Kd.int k) w A n l) (hA : ∀ ad, A = some ad → 0 < n → ¬ S ad.block) : Kd.C (Kd.int k) w' A n l := by
  obtain ⟨h1, h2, h3⟩ := hC
  refine ⟨h1, h2, fun hn => ?_⟩
  obtain ⟨ad, e, hc⟩ := h3 hn
  refine ⟨ad, e, fun j p hj => ?_⟩
  obtain ⟨c, c1, c2, c3⟩ := hc j p hj
  refine ⟨c, c1, c2, fun i u hu => ?_⟩
  have := c3 i u hu
  have hb : (ad.add (j * (Kd.int k).sz + i)).block = ad.block := by unfold Addr.add; split <;> rfl
  have hlt := World.block_lt_of_cell? _ _ this
  rw [World.cell?_of_block (w := w)]
  · exact this
  · rw [hb] at hlt ⊢
    exact h.block _ hlt (hA ad e hn)
def IsRd (w : World) (F : Nat → Prop) (g : Nat) (l : List Int) (at_ e : Int) : Prop :=
  ∃ (A : Option Addr) (c : Nat), F g ∧ w.heap[g]? = some (.cells #[.slice A l.length c, .int .i64 at_, .int .i64 e] 166 (0, 0)) ∧ l.length ≤ c ∧ Kd.C (Kd.int .u8) w A l.length l ∧
    (∀ ad, A = some ad → 0 < l.length → F ad.block ∧ ad.block ≠ g)
theorem IsRd.mu {w w' : World} {S F : Nat → Prop} {g : Nat} {l : List Int} {at_ e : Int} (h : IsRd w F g l at_ e) (hm : Mu S w w') (hF : ∀ k, F k → ¬ S k) : IsRd w' F g l at_ e := by
  obtain ⟨A, c, h1, h2, h3, h4, h5⟩ := h
  exact ⟨A, c, h1, hm.heap h2 (hF g h1), h3, C_mu hm h4 (fun ad ea hn => hF _ (h5 ad ea hn).1), h5⟩
theorem IsRd.len {w : World} {F : Nat → Prop} {g : Nat} {l : List Int} {at_ e : Int} (h : IsRd w F g l at_ e) : l.length ≤ 9223372036854775807 := by
  obtain ⟨A, c, h1, h2, h3, h4, h5⟩ := h
  exact h4.2.1
theorem IsRd.put {w w' : World} {F : Nat → Prop} {g : Nat} {l : List Int} {at_ e at' e' : Int} (h : IsRd w F g l at_ e) (hm : Mu (· = g) w w')
    (hg : ∀ v : Value, w.heap[g]? = some (.cells #[v, .int .i64 at_, .int .i64 e] 166 (0, 0)) → w'.heap[g]? = some (.cells #[v, .int .i64 at', .int .i64 e'] 166 (0, 0))) : IsRd w' F g l at' e' := by
  obtain ⟨A, c, h1, h2, h3, h4, h5⟩ := h
  exact ⟨A, c, h1, hg _ h2, h3, C_mu hm h4 (fun ad ea hn => (h5 ad ea hn).2), h5⟩
theorem add_block (ad : Addr) (n : Nat) : (ad.add n).block = ad.block := by unfold Addr.add; split <;> rfl
theorem set_at {w : World} {g t : Nat} {v a e x : Value} (h : w.heap[g]? = some (.cells #[v, a, e] t (0, 0))) : (w.setCell ⟨g, 1, none⟩ x).heap[g]? = some (.cells #[v, x, e] t (0, 0)) := by
  simp [World.setCell, Array.getElem?_modify, h]
theorem set_e {w : World} {g t : Nat} {v a e x : Value} (h : w.heap[g]? = some (.cells #[v, a, e] t (0, 0))) : (w.setCell ⟨g, 2, none⟩ x).heap[g]? = some (.cells #[v, a, x] t (0, 0)) := by
  simp [World.setCell, Array.getElem?_modify, h]
set_option maxHeartbeats 1000000 in
theorem byte_ok {w : World} {F : Nat → Prop} {g : Nat} {l : List Int} {at_ e : Int} (hI : IsRd w F g l at_ e) (h0 : 0 ≤ at_) (h1 : at_ < l.length) :
    Calls Tryd.prog 123 #[.pointer (some ⟨g, 0, none⟩)] w fun en w' => en = .returned (.int .u8 (rd l at_)) ∧ IsRd w' F g l (at_ + 1) e ∧ Mu (· = g) w w' := by
  have HI := Aside0.mk hI
  obtain ⟨A, c, i1, i2, i3, i4, i5⟩ := hI
  have I2 := Aside0.mk i2
  have hlen := i4.2.1
  have c0 := blk_cell i2 0
  have c1 := blk_cell i2 1
  have fz := blk_frozen i2 1
  obtain ⟨ad, ea, hx⟩ := Kd.at_int i4 at_ h0 h1
  subst ea
  have hne : ad.block ≠ g := (i5 ad rfl (by omega)).2
  clear i1 i2 i4 i5
  have ht : (at_ == (l.length : Int)) = false := beq_eq_false_iff_ne.2 (by omega)
  go_enter Tryd.func123, Tryd.ntmps123
  go_wp2
  go_quiet (fail)
  go_wp2
  obtain ⟨W1, hW1⟩ : ∃ W1, (w.drewN nq).setCell ⟨g, 1, none⟩ (.int .i64 (at_ + 1)) = W1 := ⟨_, rfl⟩
  rw [hW1]
  have J2 : W1.heap[g]? = some (.cells #[.slice (some ad) l.length c, .int .i64 (at_ + 1), .int .i64 e] 166 (0, 0)) := by rw [← hW1]; exact set_at I2.out
  have hm : Mu (· = g) w W1 := by rw [← hW1]; exact ((Mu.refl (· = g) w).drewN _).setCell (p := ⟨g, 1, none⟩) (fun _ => rfl) _
  have hx1 : W1.cell? (ad.add at_.toNat) = some (.int .u8 (rd l at_)) := by
    rw [← hx, ← hW1]
    exact World.cell?_of_block (w := w) (Below.heap_setCell _ _ _ _ (by rw [add_block]; exact hne))
  have d0 := blk_cell J2 0
  have d1 := blk_cell J2 1
  clear hW1 c0 c1 fz hx
  go_quiet (fail)
  go_wp2
  go_ret
  have h3 : Mu (· = g) w (W1.drewN nq) := hm.drewN nq
  refine ⟨rfl, HI.out.put h3 (fun v hv => ?_), h3⟩
  rw [I2.out] at hv
  obtain rfl : Value.slice (some ad) l.length c = v := by
    injection hv with hv
    injection hv with hv
    simpa using hv
  exact J2
set_option maxHeartbeats 1000000 in
theorem byte_short {w : World} {F : Nat → Prop} {g : Nat} {l : List Int} {at_ e : Int} (hI : IsRd w F g l at_ e) (h1 : at_ = l.length) :
    Calls Tryd.prog 123 #[.pointer (some ⟨g, 0, none⟩)] w fun en w' => en = .panicked [{ v := .iface 176 (.agg #[.int .i64 3]), recovered := false }] ∧ IsRd w' F g l at_ e ∧ Mu (· = g) w w' := by
  have HI := Aside0.mk hI
  obtain ⟨A, c, i1, i2, i3, i4, i5⟩ := hI
  have hlen := i4.2.1
  have c0 := blk_cell i2 0
  have c1 := blk_cell i2 1
  clear i1 i2 i4 i5
  have ht : (at_ == (l.length : Int)) = true := beq_iff_eq.2 (by omega)
  have H1 := Aside0.mk h1
  clear h1
  go_enter Tryd.func123, Tryd.ntmps123
  go_wp2
  go_quiet (fail)
  go_wp2
  exact ⟨rfl, rfl, HI.out.put ((Mu.refl _ _).drewN nq) (fun v hv => hv), (Mu.refl _ _).drewN nq⟩
end Go.Proofs.YtlgfmmkabnbllaaDoor.Hand
namespace Go.Proofs.YtlgfmmkabnbllaaDoor.Hand
open Go.RowKit Go.Proofs.YtlgfmmkabnbllaaDoorW.PrintWords Go.Proofs.YtlgfmmkabnbllaaDoorW.PrintLast
def stopV (e : Int) : List PanicEntry := [{ v := .iface 176 (.agg #[.int .i64 e]), recovered := false }]
def vstep (n c : Int) (i : Nat) : Int := Go.bits .or .u64 n (IntKind.u64.wrap (IntKind.u64.wrap (Go.bits .andNot .u8 c 128) * 2 ^ (7 * i)))
def numL (l : List Int) : Nat → Nat → Int → Int → Except Int (Int × Int)
  | 0, _, _, _ => .error 2
  | k + 1, i, n, at_ => if at_ = l.length then .error 3 else if (i = 9 ∧ rd l at_ > 1) ∨ (rd l at_ = 0 ∧ 0 < i) then .error 2 else
    if rd l at_ < 128 then .ok (vstep n (rd l at_) i, at_ + 1) else numL l k (i + 1) (vstep n (rd l at_) i) (at_ + 1)
def NumPost (F : Nat → Prop) (g : Nat) (l : List Int) (e : Int) (w : World) (enc : Int → Value) : Except Int (Int × Int) → Ending → World → Prop
  | .ok (n, at'), en, w' => en = .returned (enc n) ∧ IsRd w' F g l at' e ∧ at' ≤ l.length ∧ 0 ≤ at' ∧ Mu (· = g) w w'
  | .error x, en, w' => en = .panicked (stopV x) ∧ (∃ at', IsRd w' F g l at' e) ∧ Mu (· = g) w w'
set_option maxHeartbeats 2000000 in
theorem num_as {w : World} {F : Nat → Prop} {g : Nat} {l : List Int} {at_ e : Int} {R : Except Int (Int × Int)} (hR : numL l 10 0 0 at_ = R) (hI : IsRd w F g l at_ e) (h0 : 0 ≤ at_) (h1 : at_ ≤ l.length) :
    Calls Tryd.prog 116 #[.pointer (some ⟨g, 0, none⟩)] w (NumPost F g l e w (Value.int .u64) R) := by
  have HI := Aside0.mk hI
  have HR0 := Aside0.mk hR
  clear hR
  have hlen := hI.len
  clear hI
  go_enter Tryd.func116, Tryd.ntmps116
  go_wp2
  go_loopw [3, 6] (fun v3 v6 wr => ∃ (i : Nat) (n p : Int), i ≤ 10 ∧ v6 = .int .i64 i ∧ v3 = .int .u64 n ∧ 0 ≤ p ∧ p ≤ l.length ∧ Aside0 (numL l (10 - i) i n p = R) ∧ Aside0 (IsRd wr F g l p e) ∧ Aside0 (Mu (· = g) w wr)) (fun _ v6 _ => 10 - (intOf v6).toNat)
  case atStart => exact ⟨0, 0, at_, by omega, rfl, rfl, h0, h1, HR0, HI, ⟨Mu.refl _ _⟩⟩
  case round =>
    obtain ⟨i, n, p, hi, rfl, rfl, p0, p1, HN, HR, HM⟩ := hrel
    clear HI HR0 h0 h1
    by_cases hlt : i < 10
    · have hk : 10 - i = (9 - i) + 1 := by omega
      by_cases hp : p = l.length
      · have hr : R = .error 3 := by rw [← HN.out, hk]; simp only [numL]; rw [if_pos hp]
        have HP := Aside0.mk hp
        clear hp hk
        have Hr := Aside0.mk hr
        clear hr HN
        go_wp2_with fail
        refine (byte_short HR.out HP.out).mono ?_
        rintro en w1 ⟨rfl, hI1, hm1⟩
        refine ⟨rfl, ?_⟩
        rw [Hr.out]
        exact ⟨rfl, ⟨_, hI1⟩, HM.out.trans hm1⟩
      · have hp' : p < l.length := by omega
        have hr : R = if (i = 9 ∧ rd l p > 1) ∨ (rd l p = 0 ∧ 0 < i) then .error 2 else if rd l p < 128 then .ok (vstep n (rd l p) i, p + 1) else numL l (9 - i) (i + 1) (vstep n (rd l p) i) (p + 1) := by
          rw [← HN.out, hk]; simp only [numL]; rw [if_neg hp]
        have HP := Aside0.mk hp
        clear hp hk HN
        go_wp2_with fail
        refine (byte_ok HR.out p0 hp').mono ?_
        rintro en w1 ⟨rfl, hI1, hm1⟩
        have HI1 := Aside0.mk hI1
        have HM1 := Aside0.mk (HM.out.trans hm1)
        clear hI1 hm1 HR HM
        generalize rd l p = c at *
        by_cases hA : i = 9 ∧ 1 < c
        · rw [if_pos (.inl hA)] at hr
          obtain ⟨a1, a2⟩ := hA
          have e1 : ((i : Int) == 9) = true := beq_iff_eq.2 (by omega)
          clear a1
          have Hr := Aside0.mk hr
          clear hr
          go_wp2
          refine ⟨rfl, ?_⟩
          rw [Hr.out]
          exact ⟨rfl, ⟨_, HI1.out⟩, HM1.out⟩
        · have e1 : (((i : Int) == 9) && decide (1 < c)) = false := by
            rw [Bool.and_eq_false_iff]
            by_cases h9 : i = 9
            · right; exact decide_eq_false (fun h => hA ⟨h9, h⟩)
            · left; exact beq_eq_false_iff_ne.2 (by omega)
          by_cases hB : c = 0 ∧ 0 < i
          · rw [if_pos (.inr hB)] at hr
            obtain ⟨a1, a2⟩ := hB
            have e2 : (c == 0) = true := beq_iff_eq.2 a1
            have e3 : decide (1 < c) = false := decide_eq_false (by omega)
            clear a1 e1 hA
            have Hr := Aside0.mk hr
            clear hr
            go_wp2
            all_goals
              refine ⟨rfl, ?_⟩
              rw [Hr.out]
              exact ⟨rfl, ⟨_, HI1.out⟩, HM1.out⟩
          · rw [if_neg (by rintro (h | h); exact hA h; exact hB h)] at hr
            have e2 : ((c == 0) && decide (0 < i)) = false := by
              rw [Bool.and_eq_false_iff]
              by_cases h9 : c = 0
              · right; exact decide_eq_false (fun h => hB ⟨h9, by omega⟩)
              · left; exact beq_eq_false_iff_ne.2 (by omega)
            clear hA hB
            have key : ∀ (x y : Bool), ((i : Int) == 9) = x → (c == 0) = y → (x = true → decide (1 < c) = false) ∧ (y = true → decide (0 < i) = false) := by
              intro x y hx hy
              rw [hx] at e1
              rw [hy] at e2
              constructor
              · rintro rfl; simpa using e1
              · rintro rfl; simpa using e2
            clear e1 e2
            by_cases h128 : c < 128
            · rw [if_pos h128] at hr
              have Hr := Aside0.mk hr
              clear hr
              cases e1 : ((i : Int) == 9) <;> cases e2 : (c == 0) <;> obtain ⟨k1, k2⟩ := key _ _ e1 e2 <;> clear key
              all_goals
                first | (have k3 := k1 rfl) | skip
                first | (have k4 := k2 rfl) | skip
                clear k1 k2
                first | (exfalso; simp at e1 k4; omega) | (go_wp2; go_ret; rw [Hr.out]; exact ⟨rfl, HI1.out, by omega, by omega, HM1.out⟩)
            · rw [if_neg h128] at hr
              have HN1 := Aside0.mk hr.symm
              clear hr
              cases e1 : ((i : Int) == 9) <;> cases e2 : (c == 0) <;> obtain ⟨k1, k2⟩ := key _ _ e1 e2 <;> clear key
              all_goals
                first | (have k3 := k1 rfl) | skip
                first | (have k4 := k2 rfl) | skip
                clear k1 k2
                first | (exfalso; simp at k3; omega) | (exfalso; simp at e2; omega) | (go_wp2; go_roundw)
                try case rel => exact ⟨i + 1, vstep n c i, p + 1, by omega, by go_num, rfl, by omega, by omega, ⟨by rw [show 10 - (i + 1) = 9 - i by omega]; exact HN1.out⟩, HI1, HM1⟩
                try case measure => simp [intOf]; omega
    · have hr : R = .error 2 := by rw [← HN.out, show 10 - i = 0 by omega]; rfl
      have Hr := Aside0.mk hr
      clear hr HN
      go_wp2
      refine ⟨rfl, ?_⟩
      rw [Hr.out]
      exact ⟨rfl, ⟨_, HR.out⟩, HM.out⟩
end Go.Proofs.YtlgfmmkabnbllaaDoor.Hand
namespace Go.Proofs.YtlgfmmkabnbllaaDoor.Hand
open Go.RowKit Go.Proofs.YtlgfmmkabnbllaaDoorW.PrintWords Go.Proofs.YtlgfmmkabnbllaaDoorW.PrintLast
theorem alloc_blk {w : World} {g : Nat} {o O : Obj} (h : w.heap[g]? = some o) : (w.alloc O).heap[g]? = some o := (Below.heap_alloc _ _ _ (heap_lt h)).trans h
set_option maxHeartbeats 1000000 in
theorem caught_nil {w : World} {p : Addr} :
    Calls Tryd.prog 122 #[.nilIface, .pointer (some p)] w fun en w' => en = .returned (.tuple #[]) ∧ w' = w := by
  go_enter Tryd.func122, Tryd.ntmps122
  go_wp2
  go_end0
  exact ⟨rfl, rfl⟩
set_option maxHeartbeats 1000000 in
theorem caught_stop {w : World} {g : Nat} {v a e : Value} {X : Int} (h : w.heap[g]? = some (.cells #[v, a, e] 166 (0, 0))) :
    Calls Tryd.prog 122 #[.iface 176 (.agg #[.int .i64 X]), .pointer (some ⟨g, 2, none⟩)] w fun en w' => en = .returned (.tuple #[]) ∧ w'.heap[g]? = some (.cells #[v, a, .int .i64 X] 166 (0, 0)) ∧ Mu (· = g) w w' := by
  have h1 := alloc_blk (O := .cells #[.int .i64 X] 176) h
  have c2 := blk_cell h1 2
  have fz := blk_frozen h1 2
  have hta : ∀ (v : Value) (W : World), (Instr.typeAssert (.iface 176 v) 20 176 true).run Tryd.prog W = .ok (.tuple #[v, .bool true]) W := fun v W => by kernel_rfl
  have H := Aside0.mk h1
  clear h h1
  go_enter Tryd.func122, Tryd.ntmps122
  go_wp2
  go_end0
  exact ⟨rfl, set_e H.out, ((Mu.refl (· = g) w).alloc _).setCell (p := ⟨g, 2, none⟩) (fun _ => rfl) _⟩
theorem set_0 {w : World} {g t : Nat} {v x : Value} (h : w.heap[g]? = some (.cells #[v] t (0, 0))) : (w.setCell ⟨g, 0, none⟩ x).heap[g]? = some (.cells #[x] t (0, 0)) := by
  simp [World.setCell, Array.getElem?_modify, h]
def allOrders (md : Region.Mode) (ops : Array Oper) : Nat → Array Bool → List (List Nat)
  | 0, _ => [[]]
  | fuel + 1, listed => match Region.ready md ops listed with
    | [] => [[]]
    | r => r.flatMap fun i => (allOrders md ops fuel (listed.setIfInBounds i true)).map (i :: ·)
theorem mem_allOrders (md : Region.Mode) (ops : Array Oper) : ∀ (fuel t : Nat) (listed : Array Bool), Region.linearise.go md ops fuel t listed [] ∈ allOrders md ops fuel listed := by
  intro fuel
  induction fuel with
  | zero => intro t listed; simp [Region.linearise.go, allOrders]
  | succ fuel ih =>
    intro t listed
    simp only [Region.linearise.go]
    change (match (Region.ready md ops listed)[t % (Region.ready md ops listed).length]? with
      | some i => Region.linearise.go md ops fuel (t / (Region.ready md ops listed).length) (listed.setIfInBounds i true) [i]
      | none => [].reverse) ∈ _
    cases hi : (Region.ready md ops listed)[t % (Region.ready md ops listed).length]? with
    | none =>
      have hnil : Region.ready md ops listed = [] := by
        cases hr : Region.ready md ops listed with
        | nil => rfl
        | cons x xs =>
          rw [hr] at hi
          have hlt : t % (x :: xs).length < (x :: xs).length := Nat.mod_lt _ (by simp)
          simp at hi
          simp at hlt
          omega
      simp [allOrders, hnil]
    | some i =>
      simp only []
      rw [linearise_go_acc, List.reverse_singleton, List.singleton_append]
      have hm := List.mem_of_getElem? hi
      unfold allOrders
      split
      · next h => rw [h] at hm; cases hm
      · exact List.mem_flatMap.2 ⟨i, hm, List.mem_map.2 ⟨_, ih _ _, rfl⟩⟩
theorem wpS_region_draw {P : Program} {Q : Exit → Act → List Frame → World → Prop} {a : Act} {cs : List Frame} {w : World} {id : Nat} {ops : Array Oper} (hm : P.follows .mixedOrders = true)
    {L : List (List Nat)} (hL : allOrders .any ops ops.size (Array.replicate ops.size false) = L) (h : ∀ l ∈ L, wpOpsS P ops Q l a cs { w with drawn := w.drawn + 1 }) : (Code.region id ops true).wpS P Q a cs w := by
  intro b k hb hr
  have hl := mem_allOrders .any ops ops.size (w.tape w.drawn (.order b.fn id)) (Array.replicate ops.size false)
  rw [hL] at hl
  obtain ⟨e, a', cs', w', q, r⟩ := wp_opsS _ a cs _ (h _ hl) b k hb hr
  refine ⟨e, a', cs', w', q, .of_steps (.one ?_) r⟩
  rw [step_region_draw]
  simp only [Region.schedule, hm, Bool.true_or, if_true]
  rfl
theorem wp_act {P : Program} {c : Code} {Q : Exit → Act → World → Prop} {a a' : Act} {w : World} (h : a = a') (k : Code.wp P c Q a' w) : Code.wp P c Q a w := h ▸ k
theorem wp_code {P : Program} {c c' : Code} {Q : Exit → Act → World → Prop} {a : Act} {w : World} (h : c = c') (k : Code.wp P c' Q a w) : Code.wp P c Q a w := h ▸ k
noncomputable def dU_rest : Code := match Tryd.f121.body with | some (.seq _ c) => c | _ => .skip
set_option maxHeartbeats 1000000 in
theorem dU_rest_stop {w w1 : World} {g pr pa pn px : Nat} {v a rv : Value} {X A : Int} (hX : (X != 0) = true) (nx : px ≠ g)
    (hg1 : w1.heap[g]? = some (.cells #[v, a, .int .i64 X] 166 (0, 0))) (hr1 : w1.heap[pr]? = some (.cells #[.pointer (some ⟨g, 0, none⟩)] 164 (0, 0)))
    (ha1 : w1.heap[pa]? = some (.cells #[.int .i64 A] 3 (0, 0))) (hn1 : w1.heap[pn]? = some (.cells #[.int .u64 0] 28 (0, 0))) (hx1 : w1.heap[px]? = some (.cells #[.int .u64 0] 28 (0, 0)))
    (hm1 : Mu (· = g) w w1) :
    Code.wp Tryd.prog dU_rest (fun e a' w' => e = .normal ∧ a'.defers = [] ∧ w'.heap[g]? = some (.cells #[v, .int .i64 A, .int .i64 X] 166 (0, 0)) ∧ w'.heap[px]? = some (.cells #[.int .u64 0] 28 (0, 0)) ∧ Mu (fun k => k = g ∨ k = px) w w')
      { tmps := #[.pointer (some ⟨pr, 0, none⟩), .pointer (some ⟨pa, 0, none⟩), .pointer (some ⟨pn, 0, none⟩), .pointer (some ⟨px, 0, none⟩), rv, .pointer (some ⟨g, 0, none⟩), .pointer (some ⟨g, 0, none⟩), .pointer (some ⟨g, 2, none⟩), .tuple #[], undef, undef, undef, undef, undef, undef, undef, undef, undef, undef], defers := [] } w1 := by
  have cr1 := blk_cell hr1 0
  have ca1 := blk_cell ha1 0
  have cn1 := blk_cell hn1 0
  have cg1 := blk_cell hg1 2
  have cg2 := blk_cell hg1 1
  have cx1 := blk_cell hx1 0
  have fg1 := blk_frozen hg1 1
  have fx1 := blk_frozen hx1 0
  have Hg1 := Aside0.mk hg1
  have Hx1 := Aside0.mk hx1
  have Hm1 := Aside0.mk hm1
  clear hg1 hm1 hr1 ha1 hn1 hx1
  unfold dU_rest Tryd.f121
  go_wp2
  refine ⟨?_, ?_, ?_⟩
  · rw [Below.heap_setCell _ _ _ _ (by exact fun e => nx e.symm)]
    exact set_at Hg1.out
  · exact set_0 ((Below.heap_setCell _ _ _ _ (by exact nx)).trans Hx1.out)
  · exact (((Mu.mono (Hm1.out) (fun k _ h => .inl h) : Mu (fun k => k = g ∨ k = px) w w1)).setCell (p := ⟨g, 1, none⟩) (fun _ => .inl rfl) _).setCell (p := ⟨px, 0, none⟩) (fun _ => .inr rfl) _
set_option maxHeartbeats 1000000 in
theorem dU_stop {w : World} {g pr pa pn px : Nat} {v a e : Value} {X A : Int} {older : List PanicEntry} (hX : (X != 0) = true) (nr : pr ≠ g) (na : pa ≠ g) (nn : pn ≠ g) (nx : px ≠ g)
    (hg : w.heap[g]? = some (.cells #[v, a, e] 166 (0, 0))) (hr : w.heap[pr]? = some (.cells #[.pointer (some ⟨g, 0, none⟩)] 164 (0, 0)))
    (ha : w.heap[pa]? = some (.cells #[.int .i64 A] 3 (0, 0))) (hn : w.heap[pn]? = some (.cells #[.int .u64 0] 28 (0, 0))) (hx : w.heap[px]? = some (.cells #[.int .u64 0] 28 (0, 0))) :
    CallsD Tryd.prog 121 #[.pointer (some ⟨pr, 0, none⟩), .pointer (some ⟨pa, 0, none⟩), .pointer (some ⟨pn, 0, none⟩), .pointer (some ⟨px, 0, none⟩)]
      (.panicking ({ v := .iface 176 (.agg #[.int .i64 X]), recovered := false } :: older)) w fun en u w' =>
      en = .returned (.tuple #[]) ∧ u = .panicking ({ v := .iface 176 (.agg #[.int .i64 X]), recovered := true } :: older) ∧
        w'.heap[g]? = some (.cells #[v, .int .i64 A, .int .i64 X] 166 (0, 0)) ∧ w'.heap[px]? = some (.cells #[.int .u64 0] 28 (0, 0)) ∧ Mu (fun k => k = g ∨ k = px) w w' := by
  refine callsD_of_wpS Tryd.func121 rfl fun c₀ cs hu => ?_
  have cr := blk_cell hr 0
  apply wpS_seq
  refine wpS_region_draw (by kernel_rfl) (L := [[0, 1, 2, 3, 4], [1, 0, 2, 3, 4], [1, 2, 0, 3, 4], [1, 2, 3, 0, 4]]) (by kernel_rfl) ?_
  intro l hl
  simp only [List.mem_cons, List.not_mem_nil, or_false] at hl
  have hg' : w.drew.heap[g]? = some (.cells #[v, a, e] 166 (0, 0)) := hg
  have fin : ∀ (en : Exit) (a' : Act) (w' : World), (en = .normal ∧ a'.defers = [] ∧ w'.heap[g]? = some (.cells #[v, .int .i64 A, .int .i64 X] 166 (0, 0)) ∧ w'.heap[px]? = some (.cells #[.int .u64 0] 28 (0, 0)) ∧ Mu (fun k => k = g ∨ k = px) w w') →
      bodyPostS Tryd.prog Tryd.f121 c₀ cs (fun en u w' => en = .returned (.tuple #[]) ∧ u = .panicking ({ v := .iface 176 (.agg #[.int .i64 X]), recovered := true } :: older) ∧
        w'.heap[g]? = some (.cells #[v, .int .i64 A, .int .i64 X] 166 (0, 0)) ∧ w'.heap[px]? = some (.cells #[.int .u64 0] 28 (0, 0)) ∧ Mu (fun k => k = g ∨ k = px) w w') en a'
        ({ c₀ with mode := .panicking ({ v := .iface 176 (.agg #[.int .i64 X]), recovered := true } :: older) } :: cs) w' := by
    rintro en a' w' ⟨rfl, hd, h1, h2, h3⟩
    exact ⟨hd, _, rfl, .tuple #[], results_none rfl _ _ _, rfl, rfl, h1, h2, h3⟩
  rcases hl with rfl | rfl | rfl | rfl
  all_goals
    simp [wpOpsS, go_sem, recoverD, hu, Tryd.ntmps121, cr]
    refine (caught_stop hg').mono ?_
    rintro en w1 ⟨rfl, hg1, hm1⟩
    refine wpS_of_wp ?_
    refine wp_act (a' := { tmps := #[.pointer (some ⟨pr, 0, none⟩), .pointer (some ⟨pa, 0, none⟩), .pointer (some ⟨pn, 0, none⟩), .pointer (some ⟨px, 0, none⟩), .iface 176 (.agg #[.int .i64 X]), .pointer (some ⟨g, 0, none⟩), .pointer (some ⟨g, 0, none⟩), .pointer (some ⟨g, 2, none⟩), .tuple #[], undef, undef, undef, undef, undef, undef, undef, undef, undef, undef], defers := [] }) (by kernel_rfl) ?_
    refine wp_code (c' := dU_rest) (by kernel_rfl) ?_
    exact Code.wp_mono fin (dU_rest_stop hX nx hg1 (hm1.heap (show w.drew.heap[pr]? = _ from hr) nr) (hm1.heap (show w.drew.heap[pa]? = _ from ha) na) (hm1.heap (show w.drew.heap[pn]? = _ from hn) nn) (hm1.heap (show w.drew.heap[px]? = _ from hx) nx) (Mu.trans ((Mu.refl _ _).drew) hm1))
set_option maxHeartbeats 1000000 in
theorem dU_rest_idle {w1 : World} {g pr : Nat} {v a p1 p2 p3 rv : Value}
    (hg1 : w1.heap[g]? = some (.cells #[v, a, .int .i64 0] 166 (0, 0))) (hr1 : w1.heap[pr]? = some (.cells #[.pointer (some ⟨g, 0, none⟩)] 164 (0, 0))) :
    Code.wp Tryd.prog dU_rest (fun e a' w' => e = .normal ∧ a'.defers = [] ∧ w' = w1)
      { tmps := #[.pointer (some ⟨pr, 0, none⟩), p1, p2, p3, rv, .pointer (some ⟨g, 0, none⟩), .pointer (some ⟨g, 0, none⟩), .pointer (some ⟨g, 2, none⟩), .tuple #[], undef, undef, undef, undef, undef, undef, undef, undef, undef, undef], defers := [] } w1 := by
  have cr1 := blk_cell hr1 0
  have cg1 := blk_cell hg1 2
  clear hg1 hr1
  unfold dU_rest Tryd.f121
  go_wp2
set_option maxHeartbeats 1000000 in
theorem dU_idle {w : World} {g pr : Nat} {v a p1 p2 p3 : Value}
    (hg : w.heap[g]? = some (.cells #[v, a, .int .i64 0] 166 (0, 0))) (hr : w.heap[pr]? = some (.cells #[.pointer (some ⟨g, 0, none⟩)] 164 (0, 0))) :
    CallsD Tryd.prog 121 #[.pointer (some ⟨pr, 0, none⟩), p1, p2, p3] .returning w fun en u w' =>
      en = .returned (.tuple #[]) ∧ u = .returning ∧ w' = w.drew := by
  refine callsD_of_wpS Tryd.func121 rfl fun c₀ cs hu => ?_
  have cr := blk_cell hr 0
  apply wpS_seq
  refine wpS_region_draw (by kernel_rfl) (L := [[0, 1, 2, 3, 4], [1, 0, 2, 3, 4], [1, 2, 0, 3, 4], [1, 2, 3, 0, 4]]) (by kernel_rfl) ?_
  intro l hl
  simp only [List.mem_cons, List.not_mem_nil, or_false] at hl
  have fin : ∀ (en : Exit) (a' : Act) (w' : World), (en = .normal ∧ a'.defers = [] ∧ w' = w.drew) →
      bodyPostS Tryd.prog Tryd.f121 c₀ cs (fun en u w' => en = .returned (.tuple #[]) ∧ u = .returning ∧ w' = w.drew) en a' (c₀ :: cs) w' := by
    rintro en a' w' ⟨rfl, hd, rfl⟩
    exact ⟨hd, .returning, by rw [← hu], .tuple #[], results_none rfl _ _ _, rfl, rfl, rfl⟩
  rcases hl with rfl | rfl | rfl | rfl
  all_goals
    simp [wpOpsS, go_sem, recoverD, hu, Tryd.ntmps121, cr]
    refine caught_nil.mono ?_
    rintro en w1 ⟨rfl, rfl⟩
    refine wpS_of_wp ?_
    refine wp_act (a' := { tmps := #[.pointer (some ⟨pr, 0, none⟩), p1, p2, p3, .nilIface, .pointer (some ⟨g, 0, none⟩), .pointer (some ⟨g, 0, none⟩), .pointer (some ⟨g, 2, none⟩), .tuple #[], undef, undef, undef, undef, undef, undef, undef, undef, undef, undef], defers := [] }) (by kernel_rfl) ?_
    refine wp_code (c' := dU_rest) (by kernel_rfl) ?_
    exact Code.wp_mono fin (dU_rest_idle hg hr)
end Go.Proofs.YtlgfmmkabnbllaaDoor.Hand
namespace Go.Proofs.YtlgfmmkabnbllaaDoor.Hand
open Go.RowKit Go.Proofs.YtlgfmmkabnbllaaDoorW.PrintWords Go.Proofs.YtlgfmmkabnbllaaDoorW.PrintLast
def RdPost (Res : Nat → World → Value → Prop) (b : Nat) (F : Nat → Prop) (g : Nat) (l : List Int) (e : Int) (w : World) : Except Int Int → Ending → World → Prop
  | .ok at', en, w' => (∃ v, en = .returned v ∧ Res b w' v) ∧ IsRd w' F g l at' e ∧ 0 ≤ at' ∧ at' ≤ l.length ∧ Mu (· = g) w w'
  | .error x, en, w' => en = .panicked (stopV x) ∧ (∃ at', IsRd w' F g l at' e) ∧ Mu (· = g) w w'
def TrPost (Res : Nat → World → Value → Prop) (b : Nat) (F : Nat → Prop) (g : Nat) (l : List Int) (at_ e : Int) (zero : Value) (w : World) (R : Except Int Int) (en : Ending) (w' : World) : Prop :=
  Mu (· = g) w w' ∧ ((e ≠ 0 ∧ en = .returned zero ∧ IsRd w' F g l at_ e) ∨ (e = 0 ∧ ∃ at', R = .ok at' ∧ (∃ v, en = .returned v ∧ Res b w' v) ∧ IsRd w' F g l at' 0 ∧ 0 ≤ at' ∧ at' ≤ l.length) ∨
    (e = 0 ∧ ∃ x, R = .error x ∧ en = .returned zero ∧ IsRd w' F g l at_ x))
structure Stays (Res : Nat → World → Value → Prop) : Prop where
  mu : ∀ {b w1 w2 v}, Res b w1 v → Mu (fun k => k < b) w1 w2 → Res b w2 v
  lower : ∀ {b b' w v}, Res b w v → b' ≤ b → Res b' w v
theorem Mu.trans' {S T : Nat → Prop} {a b c : World} (h : Mu S a b) (k : Mu T b c) (hT : ∀ i, i < a.heap.size → T i → S i) : Mu S a c :=
  ⟨k.os.trans h.os, k.tape.trans h.tape, k.output.trans h.output, Nat.le_trans h.size k.size, fun i hi hs => (k.block i (Nat.lt_of_lt_of_le hi h.size) (fun ht => hs (hT i hi ht))).trans (h.block i hi hs)⟩
theorem alloc_new (w : World) (o : Obj) : (w.alloc o).heap[w.heap.size]? = some o := by
  show (w.heap.push o)[w.heap.size]? = some o
  simp
theorem alloc_old {w : World} {o O : Obj} {k : Nat} (h : w.heap[k]? = some o) : (w.alloc O).heap[k]? = some o := alloc_blk h
theorem four_new (w : World) (o0 o1 o2 o3 : Obj) : ∃ W, (((w.alloc o0).alloc o1).alloc o2).alloc o3 = W ∧ W.heap[w.heap.size]? = some o0 ∧ W.heap[w.heap.size + 1]? = some o1 ∧ W.heap[w.heap.size + 1 + 1]? = some o2 ∧ W.heap[w.heap.size + 1 + 1 + 1]? = some o3 ∧
    W.heap.size = w.heap.size + 4 ∧ Below w.heap.size w W := by
  have s1 : (w.alloc o0).heap.size = w.heap.size + 1 := by simp
  have s2 : ((w.alloc o0).alloc o1).heap.size = w.heap.size + 1 + 1 := by simp
  have s3 : (((w.alloc o0).alloc o1).alloc o2).heap.size = w.heap.size + 1 + 1 + 1 := by simp
  refine ⟨_, rfl, ?_, ?_, ?_, ?_, by simp, ?_⟩
  · exact alloc_old (alloc_old (alloc_old (alloc_new _ _)))
  · have := alloc_new (w.alloc o0) o1
    rw [s1] at this
    exact alloc_old (alloc_old this)
  · have := alloc_new ((w.alloc o0).alloc o1) o2
    rw [s2] at this
    exact alloc_old this
  · have := alloc_new (((w.alloc o0).alloc o1).alloc o2) o3
    rw [s3] at this
    exact this
  · exact below_alloc (below_alloc (below_alloc (below_alloc (Below.refl _ _) _) _) _) _
theorem IsRd.blk {w : World} {F : Nat → Prop} {g : Nat} {l : List Int} {at_ e : Int} (h : IsRd w F g l at_ e) : ∃ v, w.heap[g]? = some (.cells #[v, .int .i64 at_, .int .i64 e] 166 (0, 0)) := by
  obtain ⟨A, c, i1, i2, i3, i4, i5⟩ := h
  exact ⟨_, i2⟩
set_option maxHeartbeats 2000000 in
theorem triesdU {Res : Nat → World → Value → Prop} (hS : Stays Res) (hsh : ∀ b w v, Res b w v → ∃ n, v = .int .u64 n) {f : FuncId} {first cap args : Array Value} (hargs : first ++ cap = args)
    (hcf : ∀ w : World, (callFunc f args).run Tryd.prog w = .ok (.enter f args) w)
    {w : World} {F : Nat → Prop} {g : Nat} {l : List Int} {at_ e : Int} (R : Except Int Int) (hX : ∀ x, R = .error x → (x != 0) = true) (hI : IsRd w F g l at_ e) (hF : ∀ k, F k → k < w.heap.size)
    (hread : e = 0 → ∀ w1, Below w.heap.size w w1 → Calls Tryd.prog f args w1 (RdPost Res w1.heap.size F g l 0 w1 R)) :
    Calls Tryd.prog 115 #[.pointer (some ⟨g, 0, none⟩), .func (.func f) first cap] w (TrPost Res w.heap.size F g l at_ e (.int .u64 0) w R) := by
  have HI := Aside0.mk hI
  have HX := Aside0.mk hX
  have HF := Aside0.mk hF
  have HR := Aside0.mk hread
  have HS := Aside0.mk hS
  have Hsh := Aside0.mk hsh
  obtain ⟨A, c, i1, i2, i3, i4, i5⟩ := hI
  have I2 := Aside0.mk i2
  have c1 := blk_cell i2 1
  have c2 := blk_cell i2 2
  have hglt := heap_lt i2
  have hsz0 : w.heap.size ≠ g := by omega
  have hsz1 : w.heap.size + 1 ≠ g := by omega
  have hsz2 : w.heap.size + 1 + 1 ≠ g := by omega
  have hsz3 : w.heap.size + 1 + 1 + 1 ≠ g := by omega
  clear hX hF hread hS hsh i1 i2 i3 i4 i5
  have hmf : ∀ (fn : Fn) (first cap : Array Value) (w : World), (Instr.makeFunc fn first cap).run Tryd.prog w = .ok (.func fn first cap) w := fun _ _ _ _ => rfl
  by_cases he : e = 0
  · subst he
    obtain ⟨W, hW, b0, b1, b2, b3, hWs, hWb⟩ := four_new w (.cells #[.pointer (some ⟨g, 0, none⟩)] 164) (.cells #[.int .u64 0] 28) (.cells #[.int .i64 at_] 3) (.cells #[.int .u64 0] 28)
    have HW := Aside0.mk hW
    have B0 := Aside0.mk b0
    have B1 := Aside0.mk b1
    have B2 := Aside0.mk b2
    have B3 := Aside0.mk b3
    have HWs := Aside0.mk hWs
    have HWb := Aside0.mk hWb
    clear hW b0 b1 b2 b3 hWs hWb
    go_enter_defers Tryd.func115, Tryd.ntmps115
    go_wp2_with fail
    rw [HW.out]
    refine (HR.out trivial W HWb.out).mono ?_
    have hIW : IsRd W F g l at_ 0 := HI.out.mu (Mu.of_below HWb.out (fun _ => False)) (fun _ _ h => h)
    cases R with
    | ok p =>
      rintro en w2 ⟨⟨v, rfl, hres⟩, hI2, h0, h1, hm⟩
      obtain ⟨n, rfl⟩ := Hsh.out _ _ _ hres
      have b1 := hm.heap B1.out hsz1
      have b0 := hm.heap B0.out hsz0
      have c3 := blk_cell b1 0
      have f3 := blk_frozen b1 0
      have HM := Aside0.mk hm
      have HI2 := Aside0.mk hI2
      have HRes := Aside0.mk hres
      have B1' := Aside0.mk b1
      have B0' := Aside0.mk b0
      clear hm hI2 hres b1 b0
      go_wp2
      obtain ⟨v2, hb2⟩ := HI2.out.blk
      refine leaves_cons (f := 121) (args := #[.pointer (some ⟨w.heap.size, 0, none⟩), .pointer (some ⟨w.heap.size + 1 + 1, 0, none⟩), .pointer (some ⟨w.heap.size + 1 + 1 + 1, 0, none⟩), .pointer (some ⟨w.heap.size + 1, 0, none⟩)]) (by simp) (by simp [go_sem]) ?_
      refine (dU_idle (g := g) (v := v2) (a := .int .i64 p) ?_ ?_).mono ?_
      · exact (Below.heap_setCell _ _ _ _ (by exact fun e => hsz1 e.symm)).trans hb2
      · exact (Below.heap_setCell _ _ _ _ (by show w.heap.size ≠ w.heap.size + 1; omega)).trans B0'.out
      rintro en u w3 ⟨rfl, rfl, rfl⟩
      have hx := set_0 (x := .int .u64 n) B1'.out
      have cx := blk_cell hx 0
      have hm3 : ∀ S : Nat → Prop, S (w.heap.size + 1) → Mu S w2 ((w2.setCell ⟨w.heap.size + 1, 0, none⟩ (.int .u64 n)).drew) := fun S hS => ((Mu.refl S w2).setCell (p := ⟨w.heap.size + 1, 0, none⟩) (fun _ => hS) _).drew
      refine ⟨.int .u64 n, ?_, ?_, .inr (.inl ⟨rfl, p, rfl, ⟨_, rfl, ?_⟩, ?_, h0, h1⟩)⟩
      · simp [results, Tryd.results115, go_sem, cx]
      · exact (((Mu.of_below HWb.out (· = g)).trans HM.out).setCell (p := ⟨w.heap.size + 1, 0, none⟩) (fun h => absurd h (by show ¬ w.heap.size + 1 < w.heap.size; omega)) _).drew
      · exact HS.out.lower (HS.out.mu HRes.out (hm3 _ (by rw [HWs.out]; omega))) (by rw [HWs.out]; omega)
      · exact HI2.out.mu (hm3 (· = w.heap.size + 1) rfl) (fun k hk e => by have := HF.out k hk; omega)
    | error x =>
      rintro en w2 ⟨rfl, ⟨at', hI2⟩, hm⟩
      obtain ⟨v2, hb2⟩ := hI2.blk
      have hX := HX.out x rfl
      have hd := dU_stop (older := []) hX hsz0 hsz2 hsz3 hsz1 hb2 (hm.heap B0.out hsz0) (hm.heap B2.out hsz2) (hm.heap B3.out hsz3) (hm.heap B1.out hsz1)
      refine leaves_cons (f := 121) (args := #[.pointer (some ⟨w.heap.size, 0, none⟩), .pointer (some ⟨w.heap.size + 1 + 1, 0, none⟩), .pointer (some ⟨w.heap.size + 1 + 1 + 1, 0, none⟩), .pointer (some ⟨w.heap.size + 1, 0, none⟩)]) (by simp) (by simp [go_sem]) ?_
      refine hd.mono ?_
      rintro en u w3 ⟨rfl, rfl, g1, x1, m1⟩
      have cx := blk_cell x1 0
      refine ⟨.int .u64 0, ?_, ?_, .inr (.inr ⟨rfl, x, rfl, rfl, ?_⟩)⟩
      · simp [results, Tryd.results115, go_sem, cx]
      · refine ((Mu.of_below HWb.out (· = g)).trans hm).trans' m1 ?_
        rintro k hk (h | h)
        · exact h
        · omega
      · obtain ⟨A', c', j1, j2, j3, j4, j5⟩ := hI2
        rw [hb2] at j2
        obtain rfl : v2 = .slice A' l.length c' := by
          injection j2 with j2
          injection j2 with j2
          simpa using j2
        exact ⟨A', c', j1, g1, j3, C_mu m1 j4 (fun ad ea hn => by
          rintro (h | h)
          · exact (j5 ad ea hn).2 h
          · have := HF.out _ (j5 ad ea hn).1; omega), j5⟩
  · have he' : (e != 0) = true := by rw [bne_iff_ne]; exact he
    have He := Aside0.mk he
    clear he
    go_enter_defers Tryd.func115, Tryd.ntmps115
    go_wp2_with fail
    refine ⟨.int .u64 0, ?_, ?_⟩
    · simp [results, Tryd.results115, go_sem]
    · have hb : Below w.heap.size w ((w.alloc (Obj.cells #[Value.pointer (some ⟨g, 0, none⟩)] 164)).alloc (Obj.cells #[Value.int .u64 0] 28)) := below_alloc (below_alloc (Below.refl _ _) _) _
      exact ⟨Mu.of_below hb _, .inl ⟨He.out, rfl, HI.out.mu (Mu.of_below hb (fun _ => False)) (fun _ _ h => h)⟩⟩
end Go.Proofs.YtlgfmmkabnbllaaDoor.Hand
namespace Go.Proofs.YtlgfmmkabnbllaaDoor.Hand
open Go.RowKit Go.Proofs.YtlgfmmkabnbllaaDoorW.PrintWords Go.Proofs.YtlgfmmkabnbllaaDoorW.PrintLast
theorem numL_nz (l : List Int) : ∀ (k i : Nat) (n p : Int) (x : Int), numL l k i n p = .error x → (x != 0) = true
  | 0, i, n, p, x, h => by
    simp only [numL] at h
    injection h with h
    subst h
    rfl
  | k + 1, i, n, p, x, h => by
    simp only [numL] at h
    split at h
    · injection h with h; subst h; rfl
    · split at h
      · injection h with h; subst h; rfl
      · split at h
        · cases h
        · exact numL_nz l k _ _ _ x h
def NumV (n : Int) (_ : Nat) (_ : World) (v : Value) : Prop := v = .int .u64 n
theorem numV_stays (n : Int) : Stays (NumV n) where
  mu := fun h _ => h
  lower := fun h _ => h
def posOf : Except Int (Int × Int) → Except Int Int
  | .ok (_, p) => .ok p
  | .error x => .error x
def valOf : Except Int (Int × Int) → Int
  | .ok (n, _) => n
  | .error _ => 0
theorem rd_of_num {F : Nat → Prop} {g : Nat} {l : List Int} {e : Int} {w : World} {R : Except Int (Int × Int)} {b : Nat} {en : Ending} {w' : World} (h : NumPost F g l e w (Value.int .u64) R en w') :
    RdPost (NumV (valOf R)) b F g l e w (posOf R) en w' := by
  cases R with
  | error x => exact h
  | ok np =>
    obtain ⟨h1, h2, h3, h4, h5⟩ := h
    exact ⟨⟨_, h1, rfl⟩, h2, h4, h3, h5⟩
theorem posOf_nz {R : Except Int (Int × Int)} (h : ∀ x, R = .error x → (x != 0) = true) : ∀ x, posOf R = .error x → (x != 0) = true := by
  intro x hx
  cases R with
  | error y => exact h x (by simpa [posOf] using hx)
  | ok np => cases hx
def numOut : Except Int (Int × Int) → Int × Int × Int
  | .ok (n, p) => (n, p, 0)
  | .error x => (0, 0, x)
def getV (l : List Int) (at_ : Int) : Int × Int × Int := if at_ < 0 then (0, 0, 1) else if l.length < at_ then (0, 0, 1) else numOut (numL l 10 0 0 at_)
def wire_Get.f (l0 : List Int) (a1 : Int) : Option (Int × Int × Int) := some (getV l0 a1)
set_option maxHeartbeats 2000000 in
theorem wire_Get.calls (A0 : Option Addr) (c0 : Nat) (l0 : List Int) (a1 : Int) (r1 : Int) (r2 : Int) (r3 : Int) (w : World) (hr0 : Kd.C (Kd.int .u8) w A0 l0.length l0) (hc0 : l0.length ≤ c0) (h : wire_Get.f l0 a1 = some (r1, r2, r3)) :
    Calls Tryd.prog 112 #[.slice A0 l0.length c0, .int .i64 a1] w fun e w' => e = .returned (.tuple #[.int .u64 r1, .int .i64 r2, .int .i64 r3]) ∧ Below w.heap.size w w' := by
  have hv : getV l0 a1 = (r1, r2, r3) := Option.some.inj h
  clear h
  have hlen := hr0.2.1
  have HR := Aside0.mk hr0
  have HV := Aside0.mk hv
  clear hr0 hv
  by_cases h1 : a1 < 0
  · have hv : (r1, r2, r3) = (0, 0, 1) := by rw [← HV.out]; exact if_pos h1
    obtain ⟨rfl, rfl, rfl⟩ : r1 = 0 ∧ r2 = 0 ∧ r3 = 1 := by simpa using hv
    clear hv HV
    have e1 : decide (a1 < 0) = true := decide_eq_true h1
    go_enter Tryd.func112, Tryd.ntmps112
    go_wp2
    go_ret3
    exact ⟨rfl, Below.refl _ _⟩
  by_cases h2 : (l0.length : Int) < a1
  · have hv : (r1, r2, r3) = (0, 0, 1) := by rw [← HV.out]; unfold getV; rw [if_neg h1, if_pos h2]
    obtain ⟨rfl, rfl, rfl⟩ : r1 = 0 ∧ r2 = 0 ∧ r3 = 1 := by simpa using hv
    clear hv HV
    have e1 : decide (a1 < 0) = false := decide_eq_false h1
    have e2 : decide ((l0.length : Int) < a1) = true := decide_eq_true h2
    go_enter Tryd.func112, Tryd.ntmps112
    go_wp2
    go_ret3
    exact ⟨rfl, Below.refl _ _⟩
  have e1 : decide (a1 < 0) = false := decide_eq_false h1
  have e2 : decide ((l0.length : Int) < a1) = false := decide_eq_false h2
  have b1 : 0 ≤ a1 := by omega
  have b2 : a1 ≤ l0.length := by omega
  obtain ⟨R, hR⟩ : ∃ R, numL l0 10 0 0 a1 = R := ⟨_, rfl⟩
  have hv : (r1, r2, r3) = numOut R := by
    rw [← HV.out]; unfold getV; rw [if_neg h1, if_neg h2, hR]
  have HVV := Aside0.mk hv
  have HRR := Aside0.mk hR
  clear h1 h2 hv hR HV
  have hmf : ∀ (fn : Fn) (first cap : Array Value) (w : World), (Instr.makeFunc fn first cap).run Tryd.prog w = .ok (.func fn first cap) w := fun _ _ _ _ => rfl
  obtain ⟨W, hW, hg, hWs, hWb⟩ : ∃ W, w.alloc (.cells #[.slice A0 l0.length c0, .int .i64 a1, .int .i64 0] 166) = W ∧ W.heap[w.heap.size]? = some (.cells #[.slice A0 l0.length c0, .int .i64 a1, .int .i64 0] 166 (0, 0)) ∧ W.heap.size = w.heap.size + 1 ∧ Below w.heap.size w W :=
    ⟨_, rfl, alloc_new _ _, by simp, below_alloc (Below.refl _ _) _⟩
  have hI : IsRd W (fun k => k = w.heap.size ∨ (k < w.heap.size)) w.heap.size l0 a1 0 := by
    refine ⟨A0, c0, .inl rfl, hg, hc0, Kd.C_below HR.out hWb, fun ad ea hn => ?_⟩
    obtain ⟨ad', e, hc⟩ := HR.out.2.2 hn
    rw [ea] at e
    obtain rfl := Option.some.inj e
    obtain ⟨c, hcl, hk, hcell⟩ := hc 0 l0[0] (by simp [hn])
    have hk' : c = [.int .u8 l0[0]] := hk
    subst hk'
    have := World.block_lt_of_cell? _ _ (hcell 0 _ rfl)
    rw [add_block] at this
    exact ⟨.inr this, by omega⟩
  have HI := Aside0.mk hI
  have HW := Aside0.mk hW
  have HWs := Aside0.mk hWs
  have HWb := Aside0.mk hWb
  clear hW hWs hWb hg hI
  go_enter Tryd.func112, Tryd.ntmps112
  go_wp2_with fail
  rw [HW.out]
  refine (triesdU (numV_stays (valOf R)) (fun b w v h => ⟨_, h⟩) (f := 116) (first := #[.pointer (some ⟨w.heap.size, 0, none⟩)]) (cap := #[]) (args := #[.pointer (some ⟨w.heap.size, 0, none⟩)]) rfl (fun w => by kernel_rfl) (posOf R) (posOf_nz (fun x hx => numL_nz l0 _ _ _ _ x (HRR.out.trans hx))) HI.out (by intro k hk; rw [HWs.out]; omega)
    (fun _ w1 hb1 => (num_as HRR.out (HI.out.mu (Mu.of_below hb1 (fun _ => False)) (fun _ _ h => h)) b1 b2).mono (fun en w' h => rd_of_num h))).mono ?_
  rintro en w2 ⟨hm, hcase⟩
  have hb2 : Below w.heap.size w w2 := Mu.below_of HWb.out hm (by intro k hk; omega)
  have HB2 := Aside0.mk hb2
  clear hb2 hm
  cases R with
  | ok np =>
    obtain ⟨n, p⟩ := np
    obtain ⟨rfl, rfl, rfl⟩ : r1 = n ∧ r2 = p ∧ r3 = 0 := by simpa [numOut] using HVV.out
    rcases hcase with ⟨h, _⟩ | ⟨_, p', hp', ⟨v, rfl, hres⟩, hI2, _⟩ | ⟨_, x, hx, _⟩
    · exact absurd rfl h
    · obtain rfl : r2 = p' := by simpa [posOf] using hp'
      obtain rfl : v = .int .u64 r1 := hres
      obtain ⟨v2, hb⟩ := hI2.blk
      have d2 := blk_cell hb 2
      have d1 := blk_cell hb 1
      clear hI2 hb hp'
      go_wp2_with fail
      go_quiet (fail)
      go_wp2_with fail
      go_ret3
      exact ⟨rfl, pw_below_drewN HB2.out _⟩
    · cases hx
  | error x =>
    obtain ⟨rfl, rfl, rfl⟩ : r1 = 0 ∧ r2 = 0 ∧ r3 = x := by simpa [numOut] using HVV.out
    have hx0 : (r3 != 0) = true := numL_nz l0 _ _ _ _ _ HRR.out
    rcases hcase with ⟨h, _⟩ | ⟨_, p', hp', _⟩ | ⟨_, y, hy, rfl, hI2⟩
    · exact absurd rfl h
    · cases hp'
    · obtain rfl : r3 = y := by simpa [posOf] using hy
      obtain ⟨v2, hb⟩ := hI2.blk
      have d2 := blk_cell hb 2
      clear hI2 hb hy
      go_wp2_with fail
      go_quiet (fail)
      go_wp2_with fail
      go_ret3
      exact ⟨rfl, pw_below_drewN HB2.out _⟩
end Go.Proofs.YtlgfmmkabnbllaaDoor.Hand
namespace Go.Proofs.YtlgfmmkabnbllaaDoor.PA
open Go.RowKit Go.Proofs.YtlgfmmkabnbllaaDoorW.PrintWords Go.Proofs.YtlgfmmkabnbllaaDoorW.PrintLast Go.Proofs.YtlgfmmkabnbllaaDoorW.PrintMore
attribute [local go_sem] max2_int min2_int max_two min_two max_three min_three max_four min_four
open Go.Proofs.YtlgfmmkabnbllaaDoor.Hand
set_option linter.unusedVariables false
set_option linter.unusedSimpArgs false
def errW : Option Int → Value
  | none => .nilIface
  | some c => .iface 0 (.int .i64 c)
theorem errW_none : errW none = .nilIface := rfl
theorem errW_some (c : Int) : errW (some c) = .iface 0 (.int .i64 c) := rfl
theorem info5 : (Tryd.prog.info? 5).map (fun i => (i.zero, i.size, i.bytes)) = some (some (.int .u8 0), 1, 1) := by kernel_rfl
end Go.Proofs.YtlgfmmkabnbllaaDoor.PA
namespace Go.Proofs.YtlgfmmkabnbllaaDoor.PA
open Go.RowKit Go.Proofs.YtlgfmmkabnbllaaDoorW.PrintWords Go.Proofs.YtlgfmmkabnbllaaDoorW.PrintLast Go.Proofs.YtlgfmmkabnbllaaDoorW.PrintMore
attribute [local go_sem] max2_int min2_int max_two min_two max_three min_three max_four min_four
open Go.Proofs.YtlgfmmkabnbllaaDoor.Hand
set_option linter.unusedVariables false
set_option linter.unusedSimpArgs false
mutual
def wire_Crc.l0 : Nat → Int → List Int → Int → Int → Option (Int)
  | 0, _, _, _, _ => none
  | k + 1, x3, x7, x8, x9 => if x9 < x8 then (if 0 ≤ x9 then (if x9 < (x7.length : Int) then (wire_Crc.l1 k (Go.bits .xor .u32 x3 ((rd x7 x9) % 4294967296)) x7 x8 x9 0) else (none)) else (none)) else (some (Go.bits .xor .u32 x3 4294967295))
def wire_Crc.l1 : Nat → Int → List Int → Int → Int → Int → Option (Int)
  | 0, _, _, _, _, _ => none
  | k + 1, x3, x7, x8, x9, x17 => if x17 < 8 then (wire_Crc.l1 k (Go.bits .xor .u32 (x3 / 2) ((3988292384 * (Go.bits .and .u32 x3 1)) % 4294967296)) x7 x8 x9 (wrap64 (x17 + 1))) else (wire_Crc.l0 k x3 x7 x8 (wrap64 (x9 + 1)))
end
def wire_Crc.f (k : Nat) (l0 : List Int) : Option (Int) := wire_Crc.l0 k 4294967295 l0 (l0.length : Int) 0
set_option maxHeartbeats 8000000 in
set_option maxRecDepth 100000 in
theorem wire_Crc.calls (k : Nat) (A0 : Option Addr) (c0 : Nat) (l0 : List Int) (r : Int) (w : World) (hr0 : Kd.C (Kd.int .u8) w A0 l0.length l0) (hc0 : l0.length ≤ c0) (h : wire_Crc.f k l0 = some r) :
    Calls Tryd.prog 65 #[.slice A0 l0.length c0] w fun e w' => e = .returned (.int .u32 r) ∧ Drawn0 w w' := by
  have HR0 := Aside0.mk hr0
  have HC0 := Aside0.mk hc0
  clear hr0 hc0
  have H : (wire_Crc.l0 k 4294967295 l0 (l0.length : Int) 0) = some r := h
  clear h
  have H' := Aside0.mk H
  clear H
  go_enter Tryd.func65, Tryd.ntmps65
  go_wp2
  go_loopg [3, 9] k (fun kq v3 v9 w' => ∃ (x3_1 : Int) (x9_1 : Int), v3 = .int .u32 x3_1 ∧ v9 = .int .i64 x9_1 ∧ Aside0 (wire_Crc.l0 kq x3_1 l0 (l0.length : Int) x9_1 = some r) ∧ Aside0 (kq ≤ k) ∧ Drawn0 w w')
  case atStart => exact ⟨(4294967295), (0), (by first | rfl | (simp; done) | (simp [*]; done)), (by first | rfl | (simp; done) | (simp [*]; done)), H', ⟨Nat.le_refl _⟩, by repeat (first | exact Drawn0.refl _ | apply Drawn0.step)⟩
  case round =>
    clear H'
    obtain ⟨x3_1, x9_1, rfl, rfl, HA, HK1, ⟨m1, rfl⟩⟩ := hrel
    cases gk with
    | zero => exact absurd HA.out (by simp [wire_Crc.l0])
    | succ k1 =>
      have H := HA.out
      clear HA
      simp only [wire_Crc.l0] at H
      by_cases c2 : x9_1 < (l0.length : Int)
      · rw [if_pos c2] at H
        have c2b0 : decide (x9_1 < (l0.length : Int)) = true := decide_eq_true c2
        clear c2
        by_cases c3 : 0 ≤ x9_1
        · rw [if_pos c3] at H
          have c3b0 : decide (0 ≤ x9_1) = true := decide_eq_true c3
          clear c3
          by_cases c4 : x9_1 < (l0.length : Int)
          · rw [if_pos c4] at H
            have c4b0 : decide (x9_1 < (l0.length : Int)) = true := decide_eq_true c4
            clear c4
            have H' := Aside0.mk H
            clear H
            have p101 : 0 ≤ (x9_1 : Int) := of_decide_eq_true (by first | (with_reducible assumption) | assumption)
            have q101 : x9_1 < (l0.length : Int) := of_decide_eq_true (by first | (with_reducible assumption) | assumption)
            obtain ⟨ad101, e101, hx101_0⟩ := Kd.at_int HR0.out x9_1 p101 q101
            cases e101
            replace p101 := eq_true p101
            replace q101 := eq_true q101
            go_wp2
            go_loopg [3, 17] k1 (fun kq v3 v17 w' => ∃ (x3_2 : Int) (x17_2 : Int), v3 = .int .u32 x3_2 ∧ v17 = .int .i64 x17_2 ∧ Aside0 (wire_Crc.l1 kq x3_2 l0 (l0.length : Int) x9_1 x17_2 = some r) ∧ Aside0 (kq ≤ k1) ∧ Drawn0 w w')
            case atStart => exact ⟨(Go.bits .xor .u32 x3_1 ((rd l0 x9_1) % 4294967296)), (0), (by first | rfl | (simp; done) | (simp [*]; done)), (by first | rfl | (simp; done) | (simp [*]; done)), H', ⟨Nat.le_refl _⟩, by repeat (first | exact Drawn0.refl _ | apply Drawn0.step)⟩
            case round =>
              clear H'
              try clear p1
              try clear q1
              try clear hx1
              try clear c2
              try clear c2b0
              try clear p2
              try clear c3
              try clear c3b0
              try clear c4
              try clear c4b0
              try clear hx101_0
              try clear p101
              try clear q101
              obtain ⟨x3_2, x17_2, rfl, rfl, HA, HK2, ⟨m2, rfl⟩⟩ := hrel
              cases gk with
              | zero => exact absurd HA.out (by simp [wire_Crc.l1])
              | succ k2 =>
                have H := HA.out
                clear HA
                simp only [wire_Crc.l1] at H
                by_cases c5 : x17_2 < 8
                · rw [if_pos c5] at H
                  have c5b0 : decide (x17_2 < 8) = true := decide_eq_true c5
                  clear c5
                  have H' := Aside0.mk H
                  clear H
                  go_wp2
                  go_roundg k2
                  case measure => have := HK1.out; have := HK2.out; omega
                  case rel => exact ⟨(Go.bits .xor .u32 (x3_2 / 2) ((3988292384 * (Go.bits .and .u32 x3_2 1)) % 4294967296)), (wrap64 (x17_2 + 1)), (by first | rfl | (simp; done) | (simp [*]; done)), (by first | rfl | (simp; done) | (simp [*]; done)), H', ⟨by have := HK1.out; have := HK2.out; omega⟩, by repeat (first | exact Drawn0.refl _ | apply Drawn0.step)⟩
                · rw [if_neg c5] at H
                  have c5b0 : decide (x17_2 < 8) = false := decide_eq_false c5
                  clear c5
                  have H' := Aside0.mk H
                  clear H
                  go_wp2
                  go_roundg k2
                  case measure => have := HK1.out; have := HK2.out; omega
                  case rel => exact ⟨(x3_2), (wrap64 (x9_1 + 1)), (by first | rfl | (simp; done) | (simp [*]; done)), (by first | rfl | (simp; done) | (simp [*]; done)), H', ⟨by have := HK1.out; have := HK2.out; omega⟩, by repeat (first | exact Drawn0.refl _ | apply Drawn0.step)⟩
          · rw [if_neg c4] at H
            exact absurd H (by simp)
        · rw [if_neg c3] at H
          exact absurd H (by simp)
      · rw [if_neg c2] at H
        have c2b0 : decide (x9_1 < (l0.length : Int)) = false := decide_eq_false c2
        clear c2
        obtain rfl := Option.some.inj H
        go_wp2
        go_ret
        exact ⟨by first | rfl | (simp; done) | (simp [*]; done), by repeat (first | exact Drawn0.refl _ | apply Drawn0.step)⟩
def wire_Four.f (a0 : Int) : Option (List Int) := some (([(a0 / 16777216) % 256, (a0 / 65536) % 256, (a0 / 256) % 256, (a0) % 256] : List Int))
set_option maxHeartbeats 8000000 in
set_option maxRecDepth 100000 in
theorem wire_Four.calls (a0 : Int) (r : List Int) (w : World) (h : wire_Four.f a0 = some r) :
    Calls Tryd.prog 64 #[.int .u32 a0] w fun e w' => ∃ v0_ : Value, e = .returned (v0_) ∧ Kd.R (Kd.int .u8) 5 w' w.heap.size (fun _ => True) v0_ r ∧ Below w.heap.size w w' := by
  have HB := Aside0.mk (Below.refl w.heap.size w)
  have H : (some (([(a0 / 16777216) % 256, (a0 / 65536) % 256, (a0 / 256) % 256, (a0) % 256] : List Int))) = some r := h
  clear h
  obtain ⟨y102, hy102⟩ : ∃ y_ : List Int, y_ = (([(a0 / 16777216) % 256, (a0 / 65536) % 256, (a0 / 256) % 256, (a0) % 256] : List Int)) := ⟨_, rfl⟩
  replace H : (some y102) = some r := by first | (rw [hy102]; with_reducible exact H) | (have H2_ := (Option.bind_some _ _).symm.trans H; rw [hy102]; with_reducible exact H2_) | (have H2_ := (Option.bind_some _ _).symm.trans H; with_reducible exact H2_) | with_reducible exact H | (rw [hy102]; exact H) | exact H
  have Ny102 := Aside0.mk hy102
  clear hy102
  obtain rfl := Option.some.inj H
  go_enter Tryd.func64, Tryd.ntmps64
  go_wp2_with (first | ((with_reducible refine gate_dst (N := 14) rfl ?_); refine Kd.R_lit (Kd.int .u8) _ 5 ?hg (N := 14) ?hd (xs := ([(a0 / 16777216) % 256, (a0 / 65536) % 256, (a0 / 256) % 256, (a0) % 256] : List Int)) (inner := [.int .u8 ((a0 / 16777216) % 256), .int .u8 ((a0 / 65536) % 256), .int .u8 ((a0 / 256) % 256), .int .u8 ((a0) % 256)]) (ok := fun _ => True) (okp := fun _ => True) ?hr ?hp (fun _ hk => hk) trivial (Below.refl _ _) (Nat.le_refl _) (by simp) ?_; (case hd => rfl); (case hg => rfl); (case hr => first | (go_simp; done) | (go_simp; rfl)); (case hp => exact (Reps.one (show Kd.M (Kd.int .u8) _ _ _ ((a0 / 16777216) % 256) [.int .u8 ((a0 / 16777216) % 256)] from rfl) (Reps.one (show Kd.M (Kd.int .u8) _ _ _ ((a0 / 65536) % 256) [.int .u8 ((a0 / 65536) % 256)] from rfl) (Reps.one (show Kd.M (Kd.int .u8) _ _ _ ((a0 / 256) % 256) [.int .u8 ((a0 / 256) % 256)] from rfl) (Reps.one (show Kd.M (Kd.int .u8) _ _ _ ((a0) % 256) [.int .u8 ((a0) % 256)] from rfl) (Reps.none _ _)))))); intro v103 w2 ho3 hb hg_ hnew_; clear hg_ hnew_; (first | rw [← Ny102.out] at ho3 | (simp only [Int.reduceToNat] at ho3; rw [← Ny102.out] at ho3)); have n0_ := Aside0.mk (Kd.R_lower ho3 (below_size (by repeat (first | (with_reducible first | exact HB.out | apply below_alloc | apply pw_below_drewN | apply below_drew1) | exact HB.out)))); have n1_ := Aside0.mk (below_step (by repeat (first | (with_reducible first | exact HB.out | apply below_alloc | apply pw_below_drewN | apply below_drew1) | exact HB.out)) hb); clear HB; have HO104 := n0_; have HB := n1_; clear n0_ n1_; clear hb ho3))
  go_ret
  exact ⟨_, by first | rfl | (simp [errW_none, errW_some] <;> rfl) | (simp [*, errW_none, errW_some] <;> rfl), by (with_reducible repeat (first | apply Kd.R_alloc | apply Kd.R_drewN | apply Kd.R_drew)); exact HO104.out, by repeat (first | (with_reducible first | exact HB.out | apply below_alloc | apply pw_below_drewN | apply below_drew1) | exact HB.out)⟩
def wire_Var.l0 : Nat → Int → List Int → Option (List Int)
  | 0, _, _ => none
  | k + 1, x0, x3 => if x0 ≥ 128 then (if x3.length < 140737488355328 then (wire_Var.l0 k (x0 / 128) (x3 ++ [Go.bits .or .u8 ((x0) % 256) 128])) else (none)) else (if x3.length < 140737488355328 then (some (x3 ++ [(x0) % 256])) else (none))
def wire_Var.f (k : Nat) (a0 : Int) : Option (List Int) := wire_Var.l0 k a0 ([] : List Int)
set_option maxHeartbeats 8000000 in
set_option maxRecDepth 100000 in
theorem wire_Var.calls (k : Nat) (a0 : Int) (r : List Int) (w : World) (h : wire_Var.f k a0 = some r) :
    Calls Tryd.prog 81 #[.int .u64 a0] w fun e w' => ∃ v0_ : Value, e = .returned (v0_) ∧ Kd.R (Kd.int .u8) 5 w' w.heap.size (fun _ => True) v0_ r ∧ Below w.heap.size w w' := by
  have HB := Aside0.mk (Below.refl w.heap.size w)
  have H : (wire_Var.l0 k a0 ([] : List Int)) = some r := h
  clear h
  have H' := Aside0.mk H
  clear H
  go_enter Tryd.func81, Tryd.ntmps81
  go_wp2
  go_loopg [0, 3] k (fun kq v0 v3 w' => ∃ (x0_1 : Int) (x3_1 : List Int), v0 = .int .u64 x0_1 ∧ Aside0 (wire_Var.l0 kq x0_1 x3_1 = some r) ∧ Aside0 (kq ≤ k) ∧ Aside0 (Kd.R (Kd.int .u8) 5 w' w.heap.size (fun _ => True) v3 x3_1) ∧ Aside0 (Below w.heap.size w w'))
  case atStart => exact ⟨(a0), (([] : List Int)), (by first | rfl | (simp; done) | (simp [*]; done)), H', ⟨Nat.le_refl _⟩, ⟨by first | exact Kd.R_nil _ _ _ _ _ | exact Kd.N_nil _ _ _ _ _ | exact Kd.V_nil _ _ _ _ _ | exact Kd.Q_nil _ _ _ _ _ | exact Kd.S_nil _ _ _ _ _⟩, ⟨by repeat (first | (with_reducible first | exact HB.out | apply below_alloc | apply pw_below_drewN | apply below_drew1) | exact HB.out)⟩⟩
  case round =>
    clear H'
    obtain ⟨x0_1, x3_1, rfl, HA, HK1, HO_3, HB⟩ := hrel
    cases gk with
    | zero => exact absurd HA.out (by simp [wire_Var.l0])
    | succ k1 =>
      have H := HA.out
      clear HA
      simp only [wire_Var.l0] at H
      by_cases c2 : x0_1 ≥ 128
      · rw [if_pos c2] at H
        have c2b0 : decide (128 ≤ x0_1) = true := decide_eq_true c2
        clear c2
        by_cases c3 : x3_1.length < 140737488355328
        · rw [if_pos c3] at H
          have LMc3 := Aside0.mk c3
          clear c3
          obtain ⟨y105, hy105⟩ : ∃ y_ : List Int, y_ = (x3_1 ++ [Go.bits .or .u8 ((x0_1) % 256) 128]) := ⟨_, rfl⟩
          replace H : (wire_Var.l0 k1 (x0_1 / 128) y105) = some r := by first | (rw [hy105]; with_reducible exact H) | (have H2_ := (Option.bind_some _ _).symm.trans H; rw [hy105]; with_reducible exact H2_) | (have H2_ := (Option.bind_some _ _).symm.trans H; with_reducible exact H2_) | with_reducible exact H | (rw [hy105]; exact H) | exact H
          have Ny105 := Aside0.mk hy105
          clear hy105
          have H' := Aside0.mk H
          clear H
          go_wp2_with (first | ((with_reducible refine gate_builtin (b := .append) (xs := #[.tmp 8, .tmp 12]) rfl ?_); at_builtin; refine Kd.R_append (Kd.int .u8) (w0 := w) w.heap.size rfl (.tmp 8) (.tmp 12) 64 5 (.int .u8 0) 1 rfl Tryd.underlying64 info5 rfl (by decide) (by omega) u3 x3_1 (Go.bits .or .u8 ((x0_1) % 256) 128) [.int .u8 (Go.bits .or .u8 ((x0_1) % 256) 128)] (fun _ => True) (fun _ => False) rfl rfl ?aP (fun _ hk => hk.elim) ?aF ?aO ?aB ?aS ?aL ?_; (case aP => exact rfl); (case aB => exact (by repeat (first | (with_reducible first | exact HB.out | apply below_alloc | apply pw_below_drewN | apply below_drew1) | exact HB.out))); (case aF => exact (fun _ _ => trivial)); (case aO => exact (by (with_reducible repeat (first | apply Kd.R_alloc | apply Kd.R_drewN | apply Kd.R_drew)); exact HO_3.out)); (case aS => exact (below_size (by repeat (first | (with_reducible first | exact HB.out | apply below_alloc | apply pw_below_drewN | apply below_drew1) | exact HB.out)))); (case aL => have := LMc3.out; omega); intro v106 w4 ho hb hg hat; rw [← Ny105.out] at ho; have n0_ := Aside0.mk (hb); have n1_ := Aside0.mk (ho); clear HB; clear HO_3; have HB := n0_; have HO107 := n1_; clear n0_ n1_; clear ho hb hg hat))
          go_roundg k1
          case measure => have := HK1.out; omega
          case rel => exact ⟨(x0_1 / 128), (y105), (by first | rfl | (simp; done) | (simp [*]; done)), H', ⟨by have := HK1.out; omega⟩, ⟨by (with_reducible repeat (first | apply Kd.R_alloc | apply Kd.R_drewN | apply Kd.R_drew)); exact HO107.out⟩, ⟨by repeat (first | (with_reducible first | exact HB.out | apply below_alloc | apply pw_below_drewN | apply below_drew1) | exact HB.out)⟩⟩
        · rw [if_neg c3] at H
          exact absurd H (by simp)
      · rw [if_neg c2] at H
        have c2b0 : decide (128 ≤ x0_1) = false := decide_eq_false c2
        clear c2
        by_cases c5 : x3_1.length < 140737488355328
        · rw [if_pos c5] at H
          have LMc5 := Aside0.mk c5
          clear c5
          obtain ⟨y108, hy108⟩ : ∃ y_ : List Int, y_ = (x3_1 ++ [(x0_1) % 256]) := ⟨_, rfl⟩
          replace H : (some y108) = some r := by first | (rw [hy108]; with_reducible exact H) | (have H2_ := (Option.bind_some _ _).symm.trans H; rw [hy108]; with_reducible exact H2_) | (have H2_ := (Option.bind_some _ _).symm.trans H; with_reducible exact H2_) | with_reducible exact H | (rw [hy108]; exact H) | exact H
          have Ny108 := Aside0.mk hy108
          clear hy108
          obtain rfl := Option.some.inj H
          go_wp2_with (first | ((with_reducible refine gate_builtin (b := .append) (xs := #[.tmp 14, .tmp 17]) rfl ?_); at_builtin; refine Kd.R_append (Kd.int .u8) (w0 := w) w.heap.size rfl (.tmp 14) (.tmp 17) 64 5 (.int .u8 0) 1 rfl Tryd.underlying64 info5 rfl (by decide) (by omega) u3 x3_1 ((x0_1) % 256) [.int .u8 ((x0_1) % 256)] (fun _ => True) (fun _ => False) rfl rfl ?aP (fun _ hk => hk.elim) ?aF ?aO ?aB ?aS ?aL ?_; (case aP => exact rfl); (case aB => exact (by repeat (first | (with_reducible first | exact HB.out | apply below_alloc | apply pw_below_drewN | apply below_drew1) | exact HB.out))); (case aF => exact (fun _ _ => trivial)); (case aO => exact (by (with_reducible repeat (first | apply Kd.R_alloc | apply Kd.R_drewN | apply Kd.R_drew)); exact HO_3.out)); (case aS => exact (below_size (by repeat (first | (with_reducible first | exact HB.out | apply below_alloc | apply pw_below_drewN | apply below_drew1) | exact HB.out)))); (case aL => have := LMc5.out; omega); intro v109 w6 ho hb hg hat; rw [← Ny108.out] at ho; have n0_ := Aside0.mk (hb); have n1_ := Aside0.mk (ho); clear HB; clear HO_3; have HB := n0_; have HO110 := n1_; clear n0_ n1_; clear ho hb hg hat))
          go_ret
          exact ⟨_, by first | rfl | (simp [errW_none, errW_some] <;> rfl) | (simp [*, errW_none, errW_some] <;> rfl), by (with_reducible repeat (first | apply Kd.R_alloc | apply Kd.R_drewN | apply Kd.R_drew)); exact HO110.out, by repeat (first | (with_reducible first | exact HB.out | apply below_alloc | apply pw_below_drewN | apply below_drew1) | exact HB.out)⟩
        · rw [if_neg c5] at H
          exact absurd H (by simp)
def bytes_Equal.f (l0 : List Int) (l1 : List Int) : Option (Bool) := some ((strOfNums l0).toList == (strOfNums l1).toList)
set_option maxHeartbeats 8000000 in
set_option maxRecDepth 100000 in
theorem bytes_Equal.calls (A0 : Option Addr) (c0 : Nat) (l0 : List Int) (A1 : Option Addr) (c1 : Nat) (l1 : List Int) (r : Bool) (w : World) (hr0 : Kd.C (Kd.int .u8) w A0 l0.length l0) (hc0 : l0.length ≤ c0) (hr1 : Kd.C (Kd.int .u8) w A1 l1.length l1) (hc1 : l1.length ≤ c1) (h : bytes_Equal.f l0 l1 = some r) :
    Calls Tryd.prog 78 #[.slice A0 l0.length c0, .slice A1 l1.length c1] w fun e w' => e = .returned (.bool r) ∧ Drawn0 w w' := by
  have HR0 := Aside0.mk hr0
  have HC0 := Aside0.mk hc0
  clear hr0 hc0
  have HR1 := Aside0.mk hr1
  have HC1 := Aside0.mk hc1
  clear hr1 hc1
  have H : (some ((strOfNums l0).toList == (strOfNums l1).toList)) = some r := h
  clear h
  obtain rfl := Option.some.inj H
  have hcv3 := Kd.C_string (P := Tryd.prog) (A := A0) (c := c0) Tryd.underlying64 Tryd.underlying5 Tryd.underlying9 HR0.out
  have hcv4 := Kd.C_string (P := Tryd.prog) (A := A1) (c := c1) Tryd.underlying64 Tryd.underlying5 Tryd.underlying9 HR1.out
  go_enter Tryd.func78, Tryd.ntmps78
  go_wp2
  go_ret
  exact ⟨by first | rfl | (simp; done) | (simp [*]; done), by repeat (first | exact Drawn0.refl _ | apply Drawn0.step)⟩
def rec_May.f (a0_0 : Int) (a0_1 : Int) (a0_2 : Int) (l0_3 : List Int) : Option (Bool) := if a0_0 = 1 then (if a0_1 ≥ 1 then (if a0_1 ≤ 4611686018427387904 then (if a0_2 ≤ 4611686018427387904 then (some (decide ((l0_3.length : Int) ≤ 1048576))) else (some false)) else (some false)) else (some false)) else (if a0_0 = 2 then (if a0_1 ≥ 1 then (if a0_1 ≤ 4611686018427387904 then (if a0_2 ≤ 4611686018427387904 then (some (decide ((l0_3.length : Int) ≤ 1048576))) else (some false)) else (some false)) else (some false)) else (some false))
set_option maxHeartbeats 8000000 in
set_option maxRecDepth 100000 in
theorem rec_May.calls (a0_0 : Int) (a0_1 : Int) (a0_2 : Int) (A0_3 : Option Addr) (c0_3 : Nat) (l0_3 : List Int) (r : Bool) (w : World) (hr0_3 : Kd.C (Kd.int .u8) w A0_3 l0_3.length l0_3) (hc0_3 : l0_3.length ≤ c0_3) (h : rec_May.f a0_0 a0_1 a0_2 l0_3 = some r) :
    Calls Tryd.prog 79 #[.agg #[.int .i64 a0_0, .int .u64 a0_1, .int .u64 a0_2, .slice A0_3 l0_3.length c0_3]] w fun e w' => e = .returned (.bool r) ∧ Below w.heap.size w w' := by
  have hu88 := Tryd.underlying88
  have HR0_3 := Aside0.mk hr0_3
  have HC0_3 := Aside0.mk hc0_3
  clear hr0_3 hc0_3
  have HB := Aside0.mk (Below.refl w.heap.size w)
  have H : (if a0_0 = 1 then (if a0_1 ≥ 1 then (if a0_1 ≤ 4611686018427387904 then (if a0_2 ≤ 4611686018427387904 then (some (decide ((l0_3.length : Int) ≤ 1048576))) else (some false)) else (some false)) else (some false)) else (if a0_0 = 2 then (if a0_1 ≥ 1 then (if a0_1 ≤ 4611686018427387904 then (if a0_2 ≤ 4611686018427387904 then (some (decide ((l0_3.length : Int) ≤ 1048576))) else (some false)) else (some false)) else (some false)) else (some false))) = some r := h
  clear h
  by_cases c2 : a0_0 = 1
  · rw [if_pos c2] at H
    have c2b0 : (a0_0 == 1) = true := beq_iff_eq.mpr c2
    have c2b1 : (a0_0 != 1) = false := bne_eq_false_iff_eq.mpr c2
    clear c2
    by_cases c3 : a0_1 ≥ 1
    · rw [if_pos c3] at H
      have c3b0 : decide (1 ≤ a0_1) = true := decide_eq_true c3
      clear c3
      by_cases c4 : a0_1 ≤ 4611686018427387904
      · rw [if_pos c4] at H
        have c4b0 : decide (a0_1 ≤ 4611686018427387904) = true := decide_eq_true c4
        clear c4
        by_cases c5 : a0_2 ≤ 4611686018427387904
        · rw [if_pos c5] at H
          have c5b0 : decide (a0_2 ≤ 4611686018427387904) = true := decide_eq_true c5
          clear c5
          obtain rfl := Option.some.inj H
          go_enter Tryd.func79, Tryd.ntmps79
          go_wp2_with (first | ((with_reducible refine gate_dst (N := 1) rfl ?_); (try (refine gate_guard (by rfl) ?_; dsimp only)); refine box_event ?hg (N := 1) ?hd (cs := #[.int .i64 a0_0, .int .u64 a0_1, .int .u64 a0_2, .slice A0_3 l0_3.length c0_3]) (t := 88) ?hr ?_; (case hd => rfl); (case hg => rfl); (case hr => first | (go_simp; done) | (go_simp; rfl)); intro gb111 hg w6 hbox hb; have n0_ := Aside0.mk (below_step (by repeat (first | (with_reducible first | exact HB.out | apply below_alloc | apply pw_below_drewN | apply below_drew1) | exact HB.out)) hb); have n1_ := Aside0.mk (hbox); have n2_ := Aside0.mk ((by rw [hg]; exact (below_size (by repeat (first | (with_reducible first | exact HB.out | apply below_alloc | apply pw_below_drewN | apply below_drew1) | exact HB.out))) : w.heap.size ≤ gb111)); have n3_ := Aside0.mk ((by rw [hg]; exact (below_size (by repeat (first | (with_reducible first | exact HB.out | apply below_alloc | apply pw_below_drewN | apply below_drew1) | exact HB.out))) : w.heap.size ≤ gb111)); clear HB; have HB := n0_; have BK111 := n1_; have GW111 := n2_; have GE111 := n3_; clear n0_ n1_ n2_ n3_; clear hb hbox hg; have hcz7_0 : w6.cell? ⟨gb111, 0, none⟩ = some (.int .i64 a0_0) := (blk_cell BK111.out 0).trans rfl; have hcz7_1 : w6.cell? ⟨gb111, 1, none⟩ = some (.int .u64 a0_1) := (blk_cell BK111.out 1).trans rfl; have hcz7_2 : w6.cell? ⟨gb111, 2, none⟩ = some (.int .u64 a0_2) := (blk_cell BK111.out 2).trans rfl; have hcz7_3 : w6.cell? ⟨gb111, 3, none⟩ = some (.slice A0_3 l0_3.length c0_3) := (blk_cell BK111.out 3).trans rfl; have hfz7_0 := blk_frozen BK111.out 0; have hfz7_1 := blk_frozen BK111.out 1; have hfz7_2 := blk_frozen BK111.out 2; have hfz7_3 := blk_frozen BK111.out 3))
          go_ret
          exact ⟨by first | rfl | (simp [errW_none, errW_some] <;> rfl) | (simp [*, errW_none, errW_some] <;> rfl), by repeat (first | (with_reducible first | exact HB.out | apply below_alloc | apply pw_below_drewN | apply below_drew1 | refine below_set ?_ GE111.out) | exact HB.out)⟩
        · rw [if_neg c5] at H
          have c5b0 : decide (a0_2 ≤ 4611686018427387904) = false := decide_eq_false c5
          clear c5
          obtain rfl := Option.some.inj H
          go_enter Tryd.func79, Tryd.ntmps79
          go_wp2_with (first | ((with_reducible refine gate_dst (N := 1) rfl ?_); (try (refine gate_guard (by rfl) ?_; dsimp only)); refine box_event ?hg (N := 1) ?hd (cs := #[.int .i64 a0_0, .int .u64 a0_1, .int .u64 a0_2, .slice A0_3 l0_3.length c0_3]) (t := 88) ?hr ?_; (case hd => rfl); (case hg => rfl); (case hr => first | (go_simp; done) | (go_simp; rfl)); intro gb111 hg w8 hbox hb; have n0_ := Aside0.mk (below_step (by repeat (first | (with_reducible first | exact HB.out | apply below_alloc | apply pw_below_drewN | apply below_drew1) | exact HB.out)) hb); have n1_ := Aside0.mk (hbox); have n2_ := Aside0.mk ((by rw [hg]; exact (below_size (by repeat (first | (with_reducible first | exact HB.out | apply below_alloc | apply pw_below_drewN | apply below_drew1) | exact HB.out))) : w.heap.size ≤ gb111)); have n3_ := Aside0.mk ((by rw [hg]; exact (below_size (by repeat (first | (with_reducible first | exact HB.out | apply below_alloc | apply pw_below_drewN | apply below_drew1) | exact HB.out))) : w.heap.size ≤ gb111)); clear HB; have HB := n0_; have BK111 := n1_; have GW111 := n2_; have GE111 := n3_; clear n0_ n1_ n2_ n3_; clear hb hbox hg; have hcz9_0 : w8.cell? ⟨gb111, 0, none⟩ = some (.int .i64 a0_0) := (blk_cell BK111.out 0).trans rfl; have hcz9_1 : w8.cell? ⟨gb111, 1, none⟩ = some (.int .u64 a0_1) := (blk_cell BK111.out 1).trans rfl; have hcz9_2 : w8.cell? ⟨gb111, 2, none⟩ = some (.int .u64 a0_2) := (blk_cell BK111.out 2).trans rfl; have hcz9_3 : w8.cell? ⟨gb111, 3, none⟩ = some (.slice A0_3 l0_3.length c0_3) := (blk_cell BK111.out 3).trans rfl; have hfz9_0 := blk_frozen BK111.out 0; have hfz9_1 := blk_frozen BK111.out 1; have hfz9_2 := blk_frozen BK111.out 2; have hfz9_3 := blk_frozen BK111.out 3))
          go_ret
          exact ⟨by first | rfl | (simp [errW_none, errW_some] <;> rfl) | (simp [*, errW_none, errW_some] <;> rfl), by repeat (first | (with_reducible first | exact HB.out | apply below_alloc | apply pw_below_drewN | apply below_drew1 | refine below_set ?_ GE111.out) | exact HB.out)⟩
      · rw [if_neg c4] at H
        have c4b0 : decide (a0_1 ≤ 4611686018427387904) = false := decide_eq_false c4
        clear c4
        obtain rfl := Option.some.inj H
        go_enter Tryd.func79, Tryd.ntmps79
        go_wp2_with (first | ((with_reducible refine gate_dst (N := 1) rfl ?_); (try (refine gate_guard (by rfl) ?_; dsimp only)); refine box_event ?hg (N := 1) ?hd (cs := #[.int .i64 a0_0, .int .u64 a0_1, .int .u64 a0_2, .slice A0_3 l0_3.length c0_3]) (t := 88) ?hr ?_; (case hd => rfl); (case hg => rfl); (case hr => first | (go_simp; done) | (go_simp; rfl)); intro gb111 hg w10 hbox hb; have n0_ := Aside0.mk (below_step (by repeat (first | (with_reducible first | exact HB.out | apply below_alloc | apply pw_below_drewN | apply below_drew1) | exact HB.out)) hb); have n1_ := Aside0.mk (hbox); have n2_ := Aside0.mk ((by rw [hg]; exact (below_size (by repeat (first | (with_reducible first | exact HB.out | apply below_alloc | apply pw_below_drewN | apply below_drew1) | exact HB.out))) : w.heap.size ≤ gb111)); have n3_ := Aside0.mk ((by rw [hg]; exact (below_size (by repeat (first | (with_reducible first | exact HB.out | apply below_alloc | apply pw_below_drewN | apply below_drew1) | exact HB.out))) : w.heap.size ≤ gb111)); clear HB; have HB := n0_; have BK111 := n1_; have GW111 := n2_; have GE111 := n3_; clear n0_ n1_ n2_ n3_; clear hb hbox hg; have hcz11_0 : w10.cell? ⟨gb111, 0, none⟩ = some (.int .i64 a0_0) := (blk_cell BK111.out 0).trans rfl; have hcz11_1 : w10.cell? ⟨gb111, 1, none⟩ = some (.int .u64 a0_1) := (blk_cell BK111.out 1).trans rfl; have hcz11_2 : w10.cell? ⟨gb111, 2, none⟩ = some (.int .u64 a0_2) := (blk_cell BK111.out 2).trans rfl; have hcz11_3 : w10.cell? ⟨gb111, 3, none⟩ = some (.slice A0_3 l0_3.length c0_3) := (blk_cell BK111.out 3).trans rfl; have hfz11_0 := blk_frozen BK111.out 0; have hfz11_1 := blk_frozen BK111.out 1; have hfz11_2 := blk_frozen BK111.out 2; have hfz11_3 := blk_frozen BK111.out 3))
        go_ret
        exact ⟨by first | rfl | (simp [errW_none, errW_some] <;> rfl) | (simp [*, errW_none, errW_some] <;> rfl), by repeat (first | (with_reducible first | exact HB.out | apply below_alloc | apply pw_below_drewN | apply below_drew1 | refine below_set ?_ GE111.out) | exact HB.out)⟩
    · rw [if_neg c3] at H
      have c3b0 : decide (1 ≤ a0_1) = false := decide_eq_false c3
      clear c3
      obtain rfl := Option.some.inj H
      go_enter Tryd.func79, Tryd.ntmps79
      go_wp2_with (first | ((with_reducible refine gate_dst (N := 1) rfl ?_); (try (refine gate_guard (by rfl) ?_; dsimp only)); refine box_event ?hg (N := 1) ?hd (cs := #[.int .i64 a0_0, .int .u64 a0_1, .int .u64 a0_2, .slice A0_3 l0_3.length c0_3]) (t := 88) ?hr ?_; (case hd => rfl); (case hg => rfl); (case hr => first | (go_simp; done) | (go_simp; rfl)); intro gb111 hg w12 hbox hb; have n0_ := Aside0.mk (below_step (by repeat (first | (with_reducible first | exact HB.out | apply below_alloc | apply pw_below_drewN | apply below_drew1) | exact HB.out)) hb); have n1_ := Aside0.mk (hbox); have n2_ := Aside0.mk ((by rw [hg]; exact (below_size (by repeat (first | (with_reducible first | exact HB.out | apply below_alloc | apply pw_below_drewN | apply below_drew1) | exact HB.out))) : w.heap.size ≤ gb111)); have n3_ := Aside0.mk ((by rw [hg]; exact (below_size (by repeat (first | (with_reducible first | exact HB.out | apply below_alloc | apply pw_below_drewN | apply below_drew1) | exact HB.out))) : w.heap.size ≤ gb111)); clear HB; have HB := n0_; have BK111 := n1_; have GW111 := n2_; have GE111 := n3_; clear n0_ n1_ n2_ n3_; clear hb hbox hg; have hcz13_0 : w12.cell? ⟨gb111, 0, none⟩ = some (.int .i64 a0_0) := (blk_cell BK111.out 0).trans rfl; have hcz13_1 : w12.cell? ⟨gb111, 1, none⟩ = some (.int .u64 a0_1) := (blk_cell BK111.out 1).trans rfl; have hcz13_2 : w12.cell? ⟨gb111, 2, none⟩ = some (.int .u64 a0_2) := (blk_cell BK111.out 2).trans rfl; have hcz13_3 : w12.cell? ⟨gb111, 3, none⟩ = some (.slice A0_3 l0_3.length c0_3) := (blk_cell BK111.out 3).trans rfl; have hfz13_0 := blk_frozen BK111.out 0; have hfz13_1 := blk_frozen BK111.out 1; have hfz13_2 := blk_frozen BK111.out 2; have hfz13_3 := blk_frozen BK111.out 3))
      go_ret
      exact ⟨by first | rfl | (simp [errW_none, errW_some] <;> rfl) | (simp [*, errW_none, errW_some] <;> rfl), by repeat (first | (with_reducible first | exact HB.out | apply below_alloc | apply pw_below_drewN | apply below_drew1 | refine below_set ?_ GE111.out) | exact HB.out)⟩
  · rw [if_neg c2] at H
    have c2b0 : (a0_0 == 1) = false := beq_eq_false_iff_ne.mpr c2
    have c2b1 : (a0_0 != 1) = true := bne_iff_ne.mpr c2
    by_cases c14 : a0_0 = 2
    · rw [if_pos c14] at H
      have c14b0 : (a0_0 == 2) = true := beq_iff_eq.mpr c14
      have c14b1 : (a0_0 != 2) = false := bne_eq_false_iff_eq.mpr c14
      clear c14
      by_cases c15 : a0_1 ≥ 1
      · rw [if_pos c15] at H
        have c15b0 : decide (1 ≤ a0_1) = true := decide_eq_true c15
        clear c15
        by_cases c16 : a0_1 ≤ 4611686018427387904
        · rw [if_pos c16] at H
          have c16b0 : decide (a0_1 ≤ 4611686018427387904) = true := decide_eq_true c16
          clear c16
          by_cases c17 : a0_2 ≤ 4611686018427387904
          · rw [if_pos c17] at H
            have c17b0 : decide (a0_2 ≤ 4611686018427387904) = true := decide_eq_true c17
            clear c17
            obtain rfl := Option.some.inj H
            go_enter Tryd.func79, Tryd.ntmps79
            go_wp2_with (first | ((with_reducible refine gate_dst (N := 1) rfl ?_); (try (refine gate_guard (by rfl) ?_; dsimp only)); refine box_event ?hg (N := 1) ?hd (cs := #[.int .i64 a0_0, .int .u64 a0_1, .int .u64 a0_2, .slice A0_3 l0_3.length c0_3]) (t := 88) ?hr ?_; (case hd => rfl); (case hg => rfl); (case hr => first | (go_simp; done) | (go_simp; rfl)); intro gb111 hg w18 hbox hb; have n0_ := Aside0.mk (below_step (by repeat (first | (with_reducible first | exact HB.out | apply below_alloc | apply pw_below_drewN | apply below_drew1) | exact HB.out)) hb); have n1_ := Aside0.mk (hbox); have n2_ := Aside0.mk ((by rw [hg]; exact (below_size (by repeat (first | (with_reducible first | exact HB.out | apply below_alloc | apply pw_below_drewN | apply below_drew1) | exact HB.out))) : w.heap.size ≤ gb111)); have n3_ := Aside0.mk ((by rw [hg]; exact (below_size (by repeat (first | (with_reducible first | exact HB.out | apply below_alloc | apply pw_below_drewN | apply below_drew1) | exact HB.out))) : w.heap.size ≤ gb111)); clear HB; have HB := n0_; have BK111 := n1_; have GW111 := n2_; have GE111 := n3_; clear n0_ n1_ n2_ n3_; clear hb hbox hg; have hcz19_0 : w18.cell? ⟨gb111, 0, none⟩ = some (.int .i64 a0_0) := (blk_cell BK111.out 0).trans rfl; have hcz19_1 : w18.cell? ⟨gb111, 1, none⟩ = some (.int .u64 a0_1) := (blk_cell BK111.out 1).trans rfl; have hcz19_2 : w18.cell? ⟨gb111, 2, none⟩ = some (.int .u64 a0_2) := (blk_cell BK111.out 2).trans rfl; have hcz19_3 : w18.cell? ⟨gb111, 3, none⟩ = some (.slice A0_3 l0_3.length c0_3) := (blk_cell BK111.out 3).trans rfl; have hfz19_0 := blk_frozen BK111.out 0; have hfz19_1 := blk_frozen BK111.out 1; have hfz19_2 := blk_frozen BK111.out 2; have hfz19_3 := blk_frozen BK111.out 3))
            go_ret
            exact ⟨by first | rfl | (simp [errW_none, errW_some] <;> rfl) | (simp [*, errW_none, errW_some] <;> rfl), by repeat (first | (with_reducible first | exact HB.out | apply below_alloc | apply pw_below_drewN | apply below_drew1 | refine below_set ?_ GE111.out) | exact HB.out)⟩
          · rw [if_neg c17] at H
            have c17b0 : decide (a0_2 ≤ 4611686018427387904) = false := decide_eq_false c17
            clear c17
            obtain rfl := Option.some.inj H
            go_enter Tryd.func79, Tryd.ntmps79
            go_wp2_with (first | ((with_reducible refine gate_dst (N := 1) rfl ?_); (try (refine gate_guard (by rfl) ?_; dsimp only)); refine box_event ?hg (N := 1) ?hd (cs := #[.int .i64 a0_0, .int .u64 a0_1, .int .u64 a0_2, .slice A0_3 l0_3.length c0_3]) (t := 88) ?hr ?_; (case hd => rfl); (case hg => rfl); (case hr => first | (go_simp; done) | (go_simp; rfl)); intro gb111 hg w20 hbox hb; have n0_ := Aside0.mk (below_step (by repeat (first | (with_reducible first | exact HB.out | apply below_alloc | apply pw_below_drewN | apply below_drew1) | exact HB.out)) hb); have n1_ := Aside0.mk (hbox); have n2_ := Aside0.mk ((by rw [hg]; exact (below_size (by repeat (first | (with_reducible first | exact HB.out | apply below_alloc | apply pw_below_drewN | apply below_drew1) | exact HB.out))) : w.heap.size ≤ gb111)); have n3_ := Aside0.mk ((by rw [hg]; exact (below_size (by repeat (first | (with_reducible first | exact HB.out | apply below_alloc | apply pw_below_drewN | apply below_drew1) | exact HB.out))) : w.heap.size ≤ gb111)); clear HB; have HB := n0_; have BK111 := n1_; have GW111 := n2_; have GE111 := n3_; clear n0_ n1_ n2_ n3_; clear hb hbox hg; have hcz21_0 : w20.cell? ⟨gb111, 0, none⟩ = some (.int .i64 a0_0) := (blk_cell BK111.out 0).trans rfl; have hcz21_1 : w20.cell? ⟨gb111, 1, none⟩ = some (.int .u64 a0_1) := (blk_cell BK111.out 1).trans rfl; have hcz21_2 : w20.cell? ⟨gb111, 2, none⟩ = some (.int .u64 a0_2) := (blk_cell BK111.out 2).trans rfl; have hcz21_3 : w20.cell? ⟨gb111, 3, none⟩ = some (.slice A0_3 l0_3.length c0_3) := (blk_cell BK111.out 3).trans rfl; have hfz21_0 := blk_frozen BK111.out 0; have hfz21_1 := blk_frozen BK111.out 1; have hfz21_2 := blk_frozen BK111.out 2; have hfz21_3 := blk_frozen BK111.out 3))
            go_ret
            exact ⟨by first | rfl | (simp [errW_none, errW_some] <;> rfl) | (simp [*, errW_none, errW_some] <;> rfl), by repeat (first | (with_reducible first | exact HB.out | apply below_alloc | apply pw_below_drewN | apply below_drew1 | refine below_set ?_ GE111.out) | exact HB.out)⟩
        · rw [if_neg c16] at H
          have c16b0 : decide (a0_1 ≤ 4611686018427387904) = false := decide_eq_false c16
          clear c16
          obtain rfl := Option.some.inj H
          go_enter Tryd.func79, Tryd.ntmps79
          go_wp2_with (first | ((with_reducible refine gate_dst (N := 1) rfl ?_); (try (refine gate_guard (by rfl) ?_; dsimp only)); refine box_event ?hg (N := 1) ?hd (cs := #[.int .i64 a0_0, .int .u64 a0_1, .int .u64 a0_2, .slice A0_3 l0_3.length c0_3]) (t := 88) ?hr ?_; (case hd => rfl); (case hg => rfl); (case hr => first | (go_simp; done) | (go_simp; rfl)); intro gb111 hg w22 hbox hb; have n0_ := Aside0.mk (below_step (by repeat (first | (with_reducible first | exact HB.out | apply below_alloc | apply pw_below_drewN | apply below_drew1) | exact HB.out)) hb); have n1_ := Aside0.mk (hbox); have n2_ := Aside0.mk ((by rw [hg]; exact (below_size (by repeat (first | (with_reducible first | exact HB.out | apply below_alloc | apply pw_below_drewN | apply below_drew1) | exact HB.out))) : w.heap.size ≤ gb111)); have n3_ := Aside0.mk ((by rw [hg]; exact (below_size (by repeat (first | (with_reducible first | exact HB.out | apply below_alloc | apply pw_below_drewN | apply below_drew1) | exact HB.out))) : w.heap.size ≤ gb111)); clear HB; have HB := n0_; have BK111 := n1_; have GW111 := n2_; have GE111 := n3_; clear n0_ n1_ n2_ n3_; clear hb hbox hg; have hcz23_0 : w22.cell? ⟨gb111, 0, none⟩ = some (.int .i64 a0_0) := (blk_cell BK111.out 0).trans rfl; have hcz23_1 : w22.cell? ⟨gb111, 1, none⟩ = some (.int .u64 a0_1) := (blk_cell BK111.out 1).trans rfl; have hcz23_2 : w22.cell? ⟨gb111, 2, none⟩ = some (.int .u64 a0_2) := (blk_cell BK111.out 2).trans rfl; have hcz23_3 : w22.cell? ⟨gb111, 3, none⟩ = some (.slice A0_3 l0_3.length c0_3) := (blk_cell BK111.out 3).trans rfl; have hfz23_0 := blk_frozen BK111.out 0; have hfz23_1 := blk_frozen BK111.out 1; have hfz23_2 := blk_frozen BK111.out 2; have hfz23_3 := blk_frozen BK111.out 3))
          go_ret
          exact ⟨by first | rfl | (simp [errW_none, errW_some] <;> rfl) | (simp [*, errW_none, errW_some] <;> rfl), by repeat (first | (with_reducible first | exact HB.out | apply below_alloc | apply pw_below_drewN | apply below_drew1 | refine below_set ?_ GE111.out) | exact HB.out)⟩
      · rw [if_neg c15] at H
        have c15b0 : decide (1 ≤ a0_1) = false := decide_eq_false c15
        clear c15
        obtain rfl := Option.some.inj H
        go_enter Tryd.func79, Tryd.ntmps79
        go_wp2_with (first | ((with_reducible refine gate_dst (N := 1) rfl ?_); (try (refine gate_guard (by rfl) ?_; dsimp only)); refine box_event ?hg (N := 1) ?hd (cs := #[.int .i64 a0_0, .int .u64 a0_1, .int .u64 a0_2, .slice A0_3 l0_3.length c0_3]) (t := 88) ?hr ?_; (case hd => rfl); (case hg => rfl); (case hr => first | (go_simp; done) | (go_simp; rfl)); intro gb111 hg w24 hbox hb; have n0_ := Aside0.mk (below_step (by repeat (first | (with_reducible first | exact HB.out | apply below_alloc | apply pw_below_drewN | apply below_drew1) | exact HB.out)) hb); have n1_ := Aside0.mk (hbox); have n2_ := Aside0.mk ((by rw [hg]; exact (below_size (by repeat (first | (with_reducible first | exact HB.out | apply below_alloc | apply pw_below_drewN | apply below_drew1) | exact HB.out))) : w.heap.size ≤ gb111)); have n3_ := Aside0.mk ((by rw [hg]; exact (below_size (by repeat (first | (with_reducible first | exact HB.out | apply below_alloc | apply pw_below_drewN | apply below_drew1) | exact HB.out))) : w.heap.size ≤ gb111)); clear HB; have HB := n0_; have BK111 := n1_; have GW111 := n2_; have GE111 := n3_; clear n0_ n1_ n2_ n3_; clear hb hbox hg; have hcz25_0 : w24.cell? ⟨gb111, 0, none⟩ = some (.int .i64 a0_0) := (blk_cell BK111.out 0).trans rfl; have hcz25_1 : w24.cell? ⟨gb111, 1, none⟩ = some (.int .u64 a0_1) := (blk_cell BK111.out 1).trans rfl; have hcz25_2 : w24.cell? ⟨gb111, 2, none⟩ = some (.int .u64 a0_2) := (blk_cell BK111.out 2).trans rfl; have hcz25_3 : w24.cell? ⟨gb111, 3, none⟩ = some (.slice A0_3 l0_3.length c0_3) := (blk_cell BK111.out 3).trans rfl; have hfz25_0 := blk_frozen BK111.out 0; have hfz25_1 := blk_frozen BK111.out 1; have hfz25_2 := blk_frozen BK111.out 2; have hfz25_3 := blk_frozen BK111.out 3))
        go_ret
        exact ⟨by first | rfl | (simp [errW_none, errW_some] <;> rfl) | (simp [*, errW_none, errW_some] <;> rfl), by repeat (first | (with_reducible first | exact HB.out | apply below_alloc | apply pw_below_drewN | apply below_drew1 | refine below_set ?_ GE111.out) | exact HB.out)⟩
    · rw [if_neg c14] at H
      have c14b0 : (a0_0 == 2) = false := beq_eq_false_iff_ne.mpr c14
      have c14b1 : (a0_0 != 2) = true := bne_iff_ne.mpr c14
      obtain rfl := Option.some.inj H
      go_enter Tryd.func79, Tryd.ntmps79
      go_wp2_with (first | ((with_reducible refine gate_dst (N := 1) rfl ?_); (try (refine gate_guard (by rfl) ?_; dsimp only)); refine box_event ?hg (N := 1) ?hd (cs := #[.int .i64 a0_0, .int .u64 a0_1, .int .u64 a0_2, .slice A0_3 l0_3.length c0_3]) (t := 88) ?hr ?_; (case hd => rfl); (case hg => rfl); (case hr => first | (go_simp; done) | (go_simp; rfl)); intro gb111 hg w26 hbox hb; have n0_ := Aside0.mk (below_step (by repeat (first | (with_reducible first | exact HB.out | apply below_alloc | apply pw_below_drewN | apply below_drew1) | exact HB.out)) hb); have n1_ := Aside0.mk (hbox); have n2_ := Aside0.mk ((by rw [hg]; exact (below_size (by repeat (first | (with_reducible first | exact HB.out | apply below_alloc | apply pw_below_drewN | apply below_drew1) | exact HB.out))) : w.heap.size ≤ gb111)); have n3_ := Aside0.mk ((by rw [hg]; exact (below_size (by repeat (first | (with_reducible first | exact HB.out | apply below_alloc | apply pw_below_drewN | apply below_drew1) | exact HB.out))) : w.heap.size ≤ gb111)); clear HB; have HB := n0_; have BK111 := n1_; have GW111 := n2_; have GE111 := n3_; clear n0_ n1_ n2_ n3_; clear hb hbox hg; have hcz27_0 : w26.cell? ⟨gb111, 0, none⟩ = some (.int .i64 a0_0) := (blk_cell BK111.out 0).trans rfl; have hcz27_1 : w26.cell? ⟨gb111, 1, none⟩ = some (.int .u64 a0_1) := (blk_cell BK111.out 1).trans rfl; have hcz27_2 : w26.cell? ⟨gb111, 2, none⟩ = some (.int .u64 a0_2) := (blk_cell BK111.out 2).trans rfl; have hcz27_3 : w26.cell? ⟨gb111, 3, none⟩ = some (.slice A0_3 l0_3.length c0_3) := (blk_cell BK111.out 3).trans rfl; have hfz27_0 := blk_frozen BK111.out 0; have hfz27_1 := blk_frozen BK111.out 1; have hfz27_2 := blk_frozen BK111.out 2; have hfz27_3 := blk_frozen BK111.out 3))
      go_ret
      exact ⟨by first | rfl | (simp [errW_none, errW_some] <;> rfl) | (simp [*, errW_none, errW_some] <;> rfl), by repeat (first | (with_reducible first | exact HB.out | apply below_alloc | apply pw_below_drewN | apply below_drew1 | refine below_set ?_ GE111.out) | exact HB.out)⟩
def rec_Same.f (a0_0 : Int) (a0_1 : Int) (a0_2 : Int) (l0_3 : List Int) (a1_0 : Int) (a1_1 : Int) (a1_2 : Int) (l1_3 : List Int) : Option (Bool) := if a0_0 = a1_0 then (if a0_1 = a1_1 then (if a0_2 = a1_2 then ((bytes_Equal.f l0_3 l1_3).bind fun t114 => (some t114)) else (some false)) else (some false)) else (some false)
set_option maxHeartbeats 8000000 in
set_option maxRecDepth 100000 in
theorem rec_Same.calls (a0_0 : Int) (a0_1 : Int) (a0_2 : Int) (A0_3 : Option Addr) (c0_3 : Nat) (l0_3 : List Int) (a1_0 : Int) (a1_1 : Int) (a1_2 : Int) (A1_3 : Option Addr) (c1_3 : Nat) (l1_3 : List Int) (r : Bool) (w : World) (hr0_3 : Kd.C (Kd.int .u8) w A0_3 l0_3.length l0_3) (hc0_3 : l0_3.length ≤ c0_3) (hr1_3 : Kd.C (Kd.int .u8) w A1_3 l1_3.length l1_3) (hc1_3 : l1_3.length ≤ c1_3) (h : rec_Same.f a0_0 a0_1 a0_2 l0_3 a1_0 a1_1 a1_2 l1_3 = some r) :
    Calls Tryd.prog 42 #[.agg #[.int .i64 a0_0, .int .u64 a0_1, .int .u64 a0_2, .slice A0_3 l0_3.length c0_3], .agg #[.int .i64 a1_0, .int .u64 a1_1, .int .u64 a1_2, .slice A1_3 l1_3.length c1_3]] w fun e w' => e = .returned (.bool r) ∧ Below w.heap.size w w' := by
  have hu88 := Tryd.underlying88
  have HR0_3 := Aside0.mk hr0_3
  have HC0_3 := Aside0.mk hc0_3
  clear hr0_3 hc0_3
  have HR1_3 := Aside0.mk hr1_3
  have HC1_3 := Aside0.mk hc1_3
  clear hr1_3 hc1_3
  have HB := Aside0.mk (Below.refl w.heap.size w)
  have H : (if a0_0 = a1_0 then (if a0_1 = a1_1 then (if a0_2 = a1_2 then ((bytes_Equal.f l0_3 l1_3).bind fun t114 => (some t114)) else (some false)) else (some false)) else (some false)) = some r := h
  clear h
  by_cases c3 : a0_0 = a1_0
  · rw [if_pos c3] at H
    have c3b0 : (a0_0 == a1_0) = true := beq_iff_eq.mpr c3
    have c3b1 : (a0_0 != a1_0) = false := bne_eq_false_iff_eq.mpr c3
    clear c3
    by_cases c4 : a0_1 = a1_1
    · rw [if_pos c4] at H
      have c4b0 : (a0_1 == a1_1) = true := beq_iff_eq.mpr c4
      have c4b1 : (a0_1 != a1_1) = false := bne_eq_false_iff_eq.mpr c4
      clear c4
      by_cases c5 : a0_2 = a1_2
      · rw [if_pos c5] at H
        have c5b0 : (a0_2 == a1_2) = true := beq_iff_eq.mpr c5
        have c5b1 : (a0_2 != a1_2) = false := bne_eq_false_iff_eq.mpr c5
        clear c5
        replace H := Option.bind_eq_some_iff.mp H
        obtain ⟨t114, A60, H⟩ := H
        replace H : (some t114) = some r := H
        have A6 := Aside0.mk A60
        clear A60
        obtain rfl := Option.some.inj H
        go_enter Tryd.func42, Tryd.ntmps42
        go_wp2_with (first | ((with_reducible refine gate_dst (N := 2) rfl ?_); refine box_event ?hg (N := 2) ?hd (cs := #[.int .i64 a0_0, .int .u64 a0_1, .int .u64 a0_2, .slice A0_3 l0_3.length c0_3]) (t := 88) ?hr ?_; (case hd => rfl); (case hg => rfl); (case hr => first | (go_simp; done) | (go_simp; rfl)); intro gb112 hg w7 hbox hb; have n0_ := Aside0.mk (below_step (by repeat (first | (with_reducible first | exact HB.out | apply below_alloc | apply pw_below_drewN | apply below_drew1) | exact HB.out)) hb); have n1_ := Aside0.mk (hbox); have n2_ := Aside0.mk ((by rw [hg]; exact (below_size (by repeat (first | (with_reducible first | exact HB.out | apply below_alloc | apply pw_below_drewN | apply below_drew1) | exact HB.out))) : w.heap.size ≤ gb112)); have n3_ := Aside0.mk ((by rw [hg]; exact (below_size (by repeat (first | (with_reducible first | exact HB.out | apply below_alloc | apply pw_below_drewN | apply below_drew1) | exact HB.out))) : w.heap.size ≤ gb112)); clear HB; have HB := n0_; have BK112 := n1_; have GW112 := n2_; have GE112 := n3_; clear n0_ n1_ n2_ n3_; clear hb hbox hg) | ((with_reducible refine gate_dst (N := 3) rfl ?_); refine box_event ?hg (N := 3) ?hd (cs := #[.int .i64 a1_0, .int .u64 a1_1, .int .u64 a1_2, .slice A1_3 l1_3.length c1_3]) (t := 88) ?hr ?_; (case hd => rfl); (case hg => rfl); (case hr => first | (go_simp; done) | (go_simp; rfl)); intro gb113 hg w8 hbox hb; have n0_ := Aside0.mk (blk_below (g := gb112) (o := .cells #[.int .i64 a0_0, .int .u64 a0_1, .int .u64 a0_2, .slice A0_3 l0_3.length c0_3] 88 (0, 0)) (by (with_reducible repeat (first | refine blk_drewN ?_ _ | refine blk_drew ?_ | refine blk_alloc ?_ _)); exact BK112.out) hb); have n1_ := Aside0.mk (below_step (by repeat (first | (with_reducible first | exact HB.out | apply below_alloc | apply pw_below_drewN | apply below_drew1 | refine below_set ?_ GE112.out) | exact HB.out)) hb); have n2_ := Aside0.mk (hbox); have n3_ := Aside0.mk ((by rw [hg]; exact (below_size (by repeat (first | (with_reducible first | exact HB.out | apply below_alloc | apply pw_below_drewN | apply below_drew1 | refine below_set ?_ GE112.out) | exact HB.out))) : w.heap.size ≤ gb113)); have n4_ := Aside0.mk ((by rw [hg]; exact (below_size (by repeat (first | (with_reducible first | exact HB.out | apply below_alloc | apply pw_below_drewN | apply below_drew1 | refine below_set ?_ GE112.out) | exact HB.out))) : w.heap.size ≤ gb113)); have n5_ := Aside0.mk ((by rw [hg]; exact Nat.ne_of_lt (blk_lt (g := gb112) (o := .cells #[.int .i64 a0_0, .int .u64 a0_1, .int .u64 a0_2, .slice A0_3 l0_3.length c0_3] 88 (0, 0)) (by (with_reducible repeat (first | refine blk_drewN ?_ _ | refine blk_drew ?_ | refine blk_alloc ?_ _)); exact BK112.out)) : gb112 ≠ gb113)); have n6_ := Aside0.mk ((by rw [hg]; exact Nat.ne_of_gt (blk_lt (g := gb112) (o := .cells #[.int .i64 a0_0, .int .u64 a0_1, .int .u64 a0_2, .slice A0_3 l0_3.length c0_3] 88 (0, 0)) (by (with_reducible repeat (first | refine blk_drewN ?_ _ | refine blk_drew ?_ | refine blk_alloc ?_ _)); exact BK112.out)) : gb113 ≠ gb112)); clear BK112; clear HB; have BK112 := n0_; have HB := n1_; have BK113 := n2_; have GW113 := n3_; have GE113 := n4_; have NB112_113 := n5_; have NB113_112 := n6_; clear n0_ n1_ n2_ n3_ n4_ n5_ n6_; clear hb hbox hg; have hnb9 := NB112_113.out; have hnc9 := NB113_112.out; have hcz10_0 : w8.cell? ⟨gb112, 0, none⟩ = some (.int .i64 a0_0) := (blk_cell BK112.out 0).trans rfl; have hcz10_1 : w8.cell? ⟨gb112, 1, none⟩ = some (.int .u64 a0_1) := (blk_cell BK112.out 1).trans rfl; have hcz10_2 : w8.cell? ⟨gb112, 2, none⟩ = some (.int .u64 a0_2) := (blk_cell BK112.out 2).trans rfl; have hcz10_3 : w8.cell? ⟨gb112, 3, none⟩ = some (.slice A0_3 l0_3.length c0_3) := (blk_cell BK112.out 3).trans rfl; have hfz10_0 := blk_frozen BK112.out 0; have hfz10_1 := blk_frozen BK112.out 1; have hfz10_2 := blk_frozen BK112.out 2; have hfz10_3 := blk_frozen BK112.out 3; have hcz11_0 : w8.cell? ⟨gb113, 0, none⟩ = some (.int .i64 a1_0) := (blk_cell BK113.out 0).trans rfl; have hcz11_1 : w8.cell? ⟨gb113, 1, none⟩ = some (.int .u64 a1_1) := (blk_cell BK113.out 1).trans rfl; have hcz11_2 : w8.cell? ⟨gb113, 2, none⟩ = some (.int .u64 a1_2) := (blk_cell BK113.out 2).trans rfl; have hcz11_3 : w8.cell? ⟨gb113, 3, none⟩ = some (.slice A1_3 l1_3.length c1_3) := (blk_cell BK113.out 3).trans rfl; have hfz11_0 := blk_frozen BK113.out 0; have hfz11_1 := blk_frozen BK113.out 1; have hfz11_2 := blk_frozen BK113.out 2; have hfz11_3 := blk_frozen BK113.out 3) | (go_at_call 78; (with_reducible refine (bytes_Equal.calls _ _ l0_3 _ _ l1_3 t114 _ ?side1 ?side2 ?side3 ?side4 A6.out).mono ?_); (case side1 => repeat (first | exact (Kd.C_below HR0_3.out HB.out) | (with_reducible refine Kd.C_alloc ?_ _) | (with_reducible refine Kd.C_drewN ?_ _) | (with_reducible refine Kd.C_drew ?_))); (case side2 => exact HC0_3.out); (case side3 => repeat (first | exact (Kd.C_below HR1_3.out HB.out) | (with_reducible refine Kd.C_alloc ?_ _) | (with_reducible refine Kd.C_drewN ?_ _) | (with_reducible refine Kd.C_drew ?_))); (case side4 => exact HC1_3.out); rintro e w' ⟨rfl, ⟨nd, rfl⟩⟩))
        go_ret
        exact ⟨by first | rfl | (simp [errW_none, errW_some] <;> rfl) | (simp [*, errW_none, errW_some] <;> rfl), by repeat (first | (with_reducible first | exact HB.out | apply below_alloc | apply pw_below_drewN | apply below_drew1 | refine below_set ?_ GE112.out | refine below_set ?_ GE113.out) | exact HB.out)⟩
      · rw [if_neg c5] at H
        have c5b0 : (a0_2 == a1_2) = false := beq_eq_false_iff_ne.mpr c5
        have c5b1 : (a0_2 != a1_2) = true := bne_iff_ne.mpr c5
        obtain rfl := Option.some.inj H
        go_enter Tryd.func42, Tryd.ntmps42
        go_wp2_with (first | ((with_reducible refine gate_dst (N := 2) rfl ?_); refine box_event ?hg (N := 2) ?hd (cs := #[.int .i64 a0_0, .int .u64 a0_1, .int .u64 a0_2, .slice A0_3 l0_3.length c0_3]) (t := 88) ?hr ?_; (case hd => rfl); (case hg => rfl); (case hr => first | (go_simp; done) | (go_simp; rfl)); intro gb112 hg w12 hbox hb; have n0_ := Aside0.mk (below_step (by repeat (first | (with_reducible first | exact HB.out | apply below_alloc | apply pw_below_drewN | apply below_drew1) | exact HB.out)) hb); have n1_ := Aside0.mk (hbox); have n2_ := Aside0.mk ((by rw [hg]; exact (below_size (by repeat (first | (with_reducible first | exact HB.out | apply below_alloc | apply pw_below_drewN | apply below_drew1) | exact HB.out))) : w.heap.size ≤ gb112)); have n3_ := Aside0.mk ((by rw [hg]; exact (below_size (by repeat (first | (with_reducible first | exact HB.out | apply below_alloc | apply pw_below_drewN | apply below_drew1) | exact HB.out))) : w.heap.size ≤ gb112)); clear HB; have HB := n0_; have BK112 := n1_; have GW112 := n2_; have GE112 := n3_; clear n0_ n1_ n2_ n3_; clear hb hbox hg) | ((with_reducible refine gate_dst (N := 3) rfl ?_); refine box_event ?hg (N := 3) ?hd (cs := #[.int .i64 a1_0, .int .u64 a1_1, .int .u64 a1_2, .slice A1_3 l1_3.length c1_3]) (t := 88) ?hr ?_; (case hd => rfl); (case hg => rfl); (case hr => first | (go_simp; done) | (go_simp; rfl)); intro gb113 hg w13 hbox hb; have n0_ := Aside0.mk (blk_below (g := gb112) (o := .cells #[.int .i64 a0_0, .int .u64 a0_1, .int .u64 a0_2, .slice A0_3 l0_3.length c0_3] 88 (0, 0)) (by (with_reducible repeat (first | refine blk_drewN ?_ _ | refine blk_drew ?_ | refine blk_alloc ?_ _)); exact BK112.out) hb); have n1_ := Aside0.mk (below_step (by repeat (first | (with_reducible first | exact HB.out | apply below_alloc | apply pw_below_drewN | apply below_drew1 | refine below_set ?_ GE112.out) | exact HB.out)) hb); have n2_ := Aside0.mk (hbox); have n3_ := Aside0.mk ((by rw [hg]; exact (below_size (by repeat (first | (with_reducible first | exact HB.out | apply below_alloc | apply pw_below_drewN | apply below_drew1 | refine below_set ?_ GE112.out) | exact HB.out))) : w.heap.size ≤ gb113)); have n4_ := Aside0.mk ((by rw [hg]; exact (below_size (by repeat (first | (with_reducible first | exact HB.out | apply below_alloc | apply pw_below_drewN | apply below_drew1 | refine below_set ?_ GE112.out) | exact HB.out))) : w.heap.size ≤ gb113)); have n5_ := Aside0.mk ((by rw [hg]; exact Nat.ne_of_lt (blk_lt (g := gb112) (o := .cells #[.int .i64 a0_0, .int .u64 a0_1, .int .u64 a0_2, .slice A0_3 l0_3.length c0_3] 88 (0, 0)) (by (with_reducible repeat (first | refine blk_drewN ?_ _ | refine blk_drew ?_ | refine blk_alloc ?_ _)); exact BK112.out)) : gb112 ≠ gb113)); have n6_ := Aside0.mk ((by rw [hg]; exact Nat.ne_of_gt (blk_lt (g := gb112) (o := .cells #[.int .i64 a0_0, .int .u64 a0_1, .int .u64 a0_2, .slice A0_3 l0_3.length c0_3] 88 (0, 0)) (by (with_reducible repeat (first | refine blk_drewN ?_ _ | refine blk_drew ?_ | refine blk_alloc ?_ _)); exact BK112.out)) : gb113 ≠ gb112)); clear BK112; clear HB; have BK112 := n0_; have HB := n1_; have BK113 := n2_; have GW113 := n3_; have GE113 := n4_; have NB112_113 := n5_; have NB113_112 := n6_; clear n0_ n1_ n2_ n3_ n4_ n5_ n6_; clear hb hbox hg; have hnb14 := NB112_113.out; have hnc14 := NB113_112.out; have hcz15_0 : w13.cell? ⟨gb112, 0, none⟩ = some (.int .i64 a0_0) := (blk_cell BK112.out 0).trans rfl; have hcz15_1 : w13.cell? ⟨gb112, 1, none⟩ = some (.int .u64 a0_1) := (blk_cell BK112.out 1).trans rfl; have hcz15_2 : w13.cell? ⟨gb112, 2, none⟩ = some (.int .u64 a0_2) := (blk_cell BK112.out 2).trans rfl; have hcz15_3 : w13.cell? ⟨gb112, 3, none⟩ = some (.slice A0_3 l0_3.length c0_3) := (blk_cell BK112.out 3).trans rfl; have hfz15_0 := blk_frozen BK112.out 0; have hfz15_1 := blk_frozen BK112.out 1; have hfz15_2 := blk_frozen BK112.out 2; have hfz15_3 := blk_frozen BK112.out 3; have hcz16_0 : w13.cell? ⟨gb113, 0, none⟩ = some (.int .i64 a1_0) := (blk_cell BK113.out 0).trans rfl; have hcz16_1 : w13.cell? ⟨gb113, 1, none⟩ = some (.int .u64 a1_1) := (blk_cell BK113.out 1).trans rfl; have hcz16_2 : w13.cell? ⟨gb113, 2, none⟩ = some (.int .u64 a1_2) := (blk_cell BK113.out 2).trans rfl; have hcz16_3 : w13.cell? ⟨gb113, 3, none⟩ = some (.slice A1_3 l1_3.length c1_3) := (blk_cell BK113.out 3).trans rfl; have hfz16_0 := blk_frozen BK113.out 0; have hfz16_1 := blk_frozen BK113.out 1; have hfz16_2 := blk_frozen BK113.out 2; have hfz16_3 := blk_frozen BK113.out 3))
        go_ret
        exact ⟨by first | rfl | (simp [errW_none, errW_some] <;> rfl) | (simp [*, errW_none, errW_some] <;> rfl), by repeat (first | (with_reducible first | exact HB.out | apply below_alloc | apply pw_below_drewN | apply below_drew1 | refine below_set ?_ GE112.out | refine below_set ?_ GE113.out) | exact HB.out)⟩
    · rw [if_neg c4] at H
      have c4b0 : (a0_1 == a1_1) = false := beq_eq_false_iff_ne.mpr c4
      have c4b1 : (a0_1 != a1_1) = true := bne_iff_ne.mpr c4
      obtain rfl := Option.some.inj H
      go_enter Tryd.func42, Tryd.ntmps42
      go_wp2_with (first | ((with_reducible refine gate_dst (N := 2) rfl ?_); refine box_event ?hg (N := 2) ?hd (cs := #[.int .i64 a0_0, .int .u64 a0_1, .int .u64 a0_2, .slice A0_3 l0_3.length c0_3]) (t := 88) ?hr ?_; (case hd => rfl); (case hg => rfl); (case hr => first | (go_simp; done) | (go_simp; rfl)); intro gb112 hg w17 hbox hb; have n0_ := Aside0.mk (below_step (by repeat (first | (with_reducible first | exact HB.out | apply below_alloc | apply pw_below_drewN | apply below_drew1) | exact HB.out)) hb); have n1_ := Aside0.mk (hbox); have n2_ := Aside0.mk ((by rw [hg]; exact (below_size (by repeat (first | (with_reducible first | exact HB.out | apply below_alloc | apply pw_below_drewN | apply below_drew1) | exact HB.out))) : w.heap.size ≤ gb112)); have n3_ := Aside0.mk ((by rw [hg]; exact (below_size (by repeat (first | (with_reducible first | exact HB.out | apply below_alloc | apply pw_below_drewN | apply below_drew1) | exact HB.out))) : w.heap.size ≤ gb112)); clear HB; have HB := n0_; have BK112 := n1_; have GW112 := n2_; have GE112 := n3_; clear n0_ n1_ n2_ n3_; clear hb hbox hg) | ((with_reducible refine gate_dst (N := 3) rfl ?_); refine box_event ?hg (N := 3) ?hd (cs := #[.int .i64 a1_0, .int .u64 a1_1, .int .u64 a1_2, .slice A1_3 l1_3.length c1_3]) (t := 88) ?hr ?_; (case hd => rfl); (case hg => rfl); (case hr => first | (go_simp; done) | (go_simp; rfl)); intro gb113 hg w18 hbox hb; have n0_ := Aside0.mk (blk_below (g := gb112) (o := .cells #[.int .i64 a0_0, .int .u64 a0_1, .int .u64 a0_2, .slice A0_3 l0_3.length c0_3] 88 (0, 0)) (by (with_reducible repeat (first | refine blk_drewN ?_ _ | refine blk_drew ?_ | refine blk_alloc ?_ _)); exact BK112.out) hb); have n1_ := Aside0.mk (below_step (by repeat (first | (with_reducible first | exact HB.out | apply below_alloc | apply pw_below_drewN | apply below_drew1 | refine below_set ?_ GE112.out) | exact HB.out)) hb); have n2_ := Aside0.mk (hbox); have n3_ := Aside0.mk ((by rw [hg]; exact (below_size (by repeat (first | (with_reducible first | exact HB.out | apply below_alloc | apply pw_below_drewN | apply below_drew1 | refine below_set ?_ GE112.out) | exact HB.out))) : w.heap.size ≤ gb113)); have n4_ := Aside0.mk ((by rw [hg]; exact (below_size (by repeat (first | (with_reducible first | exact HB.out | apply below_alloc | apply pw_below_drewN | apply below_drew1 | refine below_set ?_ GE112.out) | exact HB.out))) : w.heap.size ≤ gb113)); have n5_ := Aside0.mk ((by rw [hg]; exact Nat.ne_of_lt (blk_lt (g := gb112) (o := .cells #[.int .i64 a0_0, .int .u64 a0_1, .int .u64 a0_2, .slice A0_3 l0_3.length c0_3] 88 (0, 0)) (by (with_reducible repeat (first | refine blk_drewN ?_ _ | refine blk_drew ?_ | refine blk_alloc ?_ _)); exact BK112.out)) : gb112 ≠ gb113)); have n6_ := Aside0.mk ((by rw [hg]; exact Nat.ne_of_gt (blk_lt (g := gb112) (o := .cells #[.int .i64 a0_0, .int .u64 a0_1, .int .u64 a0_2, .slice A0_3 l0_3.length c0_3] 88 (0, 0)) (by (with_reducible repeat (first | refine blk_drewN ?_ _ | refine blk_drew ?_ | refine blk_alloc ?_ _)); exact BK112.out)) : gb113 ≠ gb112)); clear BK112; clear HB; have BK112 := n0_; have HB := n1_; have BK113 := n2_; have GW113 := n3_; have GE113 := n4_; have NB112_113 := n5_; have NB113_112 := n6_; clear n0_ n1_ n2_ n3_ n4_ n5_ n6_; clear hb hbox hg; have hnb19 := NB112_113.out; have hnc19 := NB113_112.out; have hcz20_0 : w18.cell? ⟨gb112, 0, none⟩ = some (.int .i64 a0_0) := (blk_cell BK112.out 0).trans rfl; have hcz20_1 : w18.cell? ⟨gb112, 1, none⟩ = some (.int .u64 a0_1) := (blk_cell BK112.out 1).trans rfl; have hcz20_2 : w18.cell? ⟨gb112, 2, none⟩ = some (.int .u64 a0_2) := (blk_cell BK112.out 2).trans rfl; have hcz20_3 : w18.cell? ⟨gb112, 3, none⟩ = some (.slice A0_3 l0_3.length c0_3) := (blk_cell BK112.out 3).trans rfl; have hfz20_0 := blk_frozen BK112.out 0; have hfz20_1 := blk_frozen BK112.out 1; have hfz20_2 := blk_frozen BK112.out 2; have hfz20_3 := blk_frozen BK112.out 3; have hcz21_0 : w18.cell? ⟨gb113, 0, none⟩ = some (.int .i64 a1_0) := (blk_cell BK113.out 0).trans rfl; have hcz21_1 : w18.cell? ⟨gb113, 1, none⟩ = some (.int .u64 a1_1) := (blk_cell BK113.out 1).trans rfl; have hcz21_2 : w18.cell? ⟨gb113, 2, none⟩ = some (.int .u64 a1_2) := (blk_cell BK113.out 2).trans rfl; have hcz21_3 : w18.cell? ⟨gb113, 3, none⟩ = some (.slice A1_3 l1_3.length c1_3) := (blk_cell BK113.out 3).trans rfl; have hfz21_0 := blk_frozen BK113.out 0; have hfz21_1 := blk_frozen BK113.out 1; have hfz21_2 := blk_frozen BK113.out 2; have hfz21_3 := blk_frozen BK113.out 3))
      go_ret
      exact ⟨by first | rfl | (simp [errW_none, errW_some] <;> rfl) | (simp [*, errW_none, errW_some] <;> rfl), by repeat (first | (with_reducible first | exact HB.out | apply below_alloc | apply pw_below_drewN | apply below_drew1 | refine below_set ?_ GE112.out | refine below_set ?_ GE113.out) | exact HB.out)⟩
  · rw [if_neg c3] at H
    have c3b0 : (a0_0 == a1_0) = false := beq_eq_false_iff_ne.mpr c3
    have c3b1 : (a0_0 != a1_0) = true := bne_iff_ne.mpr c3
    obtain rfl := Option.some.inj H
    go_enter Tryd.func42, Tryd.ntmps42
    go_wp2_with (first | ((with_reducible refine gate_dst (N := 2) rfl ?_); refine box_event ?hg (N := 2) ?hd (cs := #[.int .i64 a0_0, .int .u64 a0_1, .int .u64 a0_2, .slice A0_3 l0_3.length c0_3]) (t := 88) ?hr ?_; (case hd => rfl); (case hg => rfl); (case hr => first | (go_simp; done) | (go_simp; rfl)); intro gb112 hg w22 hbox hb; have n0_ := Aside0.mk (below_step (by repeat (first | (with_reducible first | exact HB.out | apply below_alloc | apply pw_below_drewN | apply below_drew1) | exact HB.out)) hb); have n1_ := Aside0.mk (hbox); have n2_ := Aside0.mk ((by rw [hg]; exact (below_size (by repeat (first | (with_reducible first | exact HB.out | apply below_alloc | apply pw_below_drewN | apply below_drew1) | exact HB.out))) : w.heap.size ≤ gb112)); have n3_ := Aside0.mk ((by rw [hg]; exact (below_size (by repeat (first | (with_reducible first | exact HB.out | apply below_alloc | apply pw_below_drewN | apply below_drew1) | exact HB.out))) : w.heap.size ≤ gb112)); clear HB; have HB := n0_; have BK112 := n1_; have GW112 := n2_; have GE112 := n3_; clear n0_ n1_ n2_ n3_; clear hb hbox hg) | ((with_reducible refine gate_dst (N := 3) rfl ?_); refine box_event ?hg (N := 3) ?hd (cs := #[.int .i64 a1_0, .int .u64 a1_1, .int .u64 a1_2, .slice A1_3 l1_3.length c1_3]) (t := 88) ?hr ?_; (case hd => rfl); (case hg => rfl); (case hr => first | (go_simp; done) | (go_simp; rfl)); intro gb113 hg w23 hbox hb; have n0_ := Aside0.mk (blk_below (g := gb112) (o := .cells #[.int .i64 a0_0, .int .u64 a0_1, .int .u64 a0_2, .slice A0_3 l0_3.length c0_3] 88 (0, 0)) (by (with_reducible repeat (first | refine blk_drewN ?_ _ | refine blk_drew ?_ | refine blk_alloc ?_ _)); exact BK112.out) hb); have n1_ := Aside0.mk (below_step (by repeat (first | (with_reducible first | exact HB.out | apply below_alloc | apply pw_below_drewN | apply below_drew1 | refine below_set ?_ GE112.out) | exact HB.out)) hb); have n2_ := Aside0.mk (hbox); have n3_ := Aside0.mk ((by rw [hg]; exact (below_size (by repeat (first | (with_reducible first | exact HB.out | apply below_alloc | apply pw_below_drewN | apply below_drew1 | refine below_set ?_ GE112.out) | exact HB.out))) : w.heap.size ≤ gb113)); have n4_ := Aside0.mk ((by rw [hg]; exact (below_size (by repeat (first | (with_reducible first | exact HB.out | apply below_alloc | apply pw_below_drewN | apply below_drew1 | refine below_set ?_ GE112.out) | exact HB.out))) : w.heap.size ≤ gb113)); have n5_ := Aside0.mk ((by rw [hg]; exact Nat.ne_of_lt (blk_lt (g := gb112) (o := .cells #[.int .i64 a0_0, .int .u64 a0_1, .int .u64 a0_2, .slice A0_3 l0_3.length c0_3] 88 (0, 0)) (by (with_reducible repeat (first | refine blk_drewN ?_ _ | refine blk_drew ?_ | refine blk_alloc ?_ _)); exact BK112.out)) : gb112 ≠ gb113)); have n6_ := Aside0.mk ((by rw [hg]; exact Nat.ne_of_gt (blk_lt (g := gb112) (o := .cells #[.int .i64 a0_0, .int .u64 a0_1, .int .u64 a0_2, .slice A0_3 l0_3.length c0_3] 88 (0, 0)) (by (with_reducible repeat (first | refine blk_drewN ?_ _ | refine blk_drew ?_ | refine blk_alloc ?_ _)); exact BK112.out)) : gb113 ≠ gb112)); clear BK112; clear HB; have BK112 := n0_; have HB := n1_; have BK113 := n2_; have GW113 := n3_; have GE113 := n4_; have NB112_113 := n5_; have NB113_112 := n6_; clear n0_ n1_ n2_ n3_ n4_ n5_ n6_; clear hb hbox hg; have hnb24 := NB112_113.out; have hnc24 := NB113_112.out; have hcz25_0 : w23.cell? ⟨gb112, 0, none⟩ = some (.int .i64 a0_0) := (blk_cell BK112.out 0).trans rfl; have hcz25_1 : w23.cell? ⟨gb112, 1, none⟩ = some (.int .u64 a0_1) := (blk_cell BK112.out 1).trans rfl; have hcz25_2 : w23.cell? ⟨gb112, 2, none⟩ = some (.int .u64 a0_2) := (blk_cell BK112.out 2).trans rfl; have hcz25_3 : w23.cell? ⟨gb112, 3, none⟩ = some (.slice A0_3 l0_3.length c0_3) := (blk_cell BK112.out 3).trans rfl; have hfz25_0 := blk_frozen BK112.out 0; have hfz25_1 := blk_frozen BK112.out 1; have hfz25_2 := blk_frozen BK112.out 2; have hfz25_3 := blk_frozen BK112.out 3; have hcz26_0 : w23.cell? ⟨gb113, 0, none⟩ = some (.int .i64 a1_0) := (blk_cell BK113.out 0).trans rfl; have hcz26_1 : w23.cell? ⟨gb113, 1, none⟩ = some (.int .u64 a1_1) := (blk_cell BK113.out 1).trans rfl; have hcz26_2 : w23.cell? ⟨gb113, 2, none⟩ = some (.int .u64 a1_2) := (blk_cell BK113.out 2).trans rfl; have hcz26_3 : w23.cell? ⟨gb113, 3, none⟩ = some (.slice A1_3 l1_3.length c1_3) := (blk_cell BK113.out 3).trans rfl; have hfz26_0 := blk_frozen BK113.out 0; have hfz26_1 := blk_frozen BK113.out 1; have hfz26_2 := blk_frozen BK113.out 2; have hfz26_3 := blk_frozen BK113.out 3))
    go_ret
    exact ⟨by first | rfl | (simp [errW_none, errW_some] <;> rfl) | (simp [*, errW_none, errW_some] <;> rfl), by repeat (first | (with_reducible first | exact HB.out | apply below_alloc | apply pw_below_drewN | apply below_drew1 | refine below_set ?_ GE112.out | refine below_set ?_ GE113.out) | exact HB.out)⟩
def tikref_Bytes.f (l0 : List Int) (l1 : List Int) : Option (Bool) := some ((strOfNums l0).toList == (strOfNums l1).toList)
def tikref13_SameRecord.f (a0_0 : Int) (a0_1 : Int) (a0_2 : Int) (l0_3 : List Int) (a1_0 : Int) (a1_1 : Int) (a1_2 : Int) (l1_3 : List Int) : Option (Bool) := if a0_0 = a1_0 then (if a0_1 = a1_1 then (if a0_2 = a1_2 then ((tikref_Bytes.f l0_3 l1_3).bind fun t117 => (some t117)) else (some false)) else (some false)) else (some false)
def tikref13_MayRecord.f (a0_0 : Int) (a0_1 : Int) (a0_2 : Int) (l0_3 : List Int) : Option (Bool) := if a0_0 = 1 then (if a0_1 ≥ 1 then (if a0_1 ≤ 4611686018427387904 then (if a0_2 ≤ 4611686018427387904 then (some (decide ((l0_3.length : Int) ≤ 1048576))) else (some false)) else (some false)) else (some false)) else (if a0_0 = 2 then (if a0_1 ≥ 1 then (if a0_1 ≤ 4611686018427387904 then (if a0_2 ≤ 4611686018427387904 then (some (decide ((l0_3.length : Int) ≤ 1048576))) else (some false)) else (some false)) else (some false)) else (some false))
end Go.Proofs.YtlgfmmkabnbllaaDoor.PA
namespace Go.Proofs.YtlgfmmkabnbllaaDoor.PA
open Go.RowKit Go.Proofs.YtlgfmmkabnbllaaDoorW.PrintWords Go.Proofs.YtlgfmmkabnbllaaDoorW.PrintLast Go.Proofs.YtlgfmmkabnbllaaDoorW.PrintMore
attribute [local go_sem] max2_int min2_int max_two min_two max_three min_three max_four min_four
open Go.Proofs.YtlgfmmkabnbllaaDoor.Hand
set_option linter.unusedVariables false
set_option linter.unusedSimpArgs false
mutual
def tikref2_Get.j0 : Nat → List Int → Int → Bool → Option (Int × Int × Int)
  | 0, _, _, _ => none
  | k + 1, x0, x1, x17 => if x17 = true then (some (0, 0, 1)) else (tikref2_Get.l0 k x0 x1 0 0)
def tikref2_Get.l0 : Nat → List Int → Int → Int → Int → Option (Int × Int × Int)
  | 0, _, _, _, _ => none
  | k + 1, x0, x1, x7, x8 => if x8 < 10 then (if (wrap64 (x1 + x8)) ≥ (x0.length : Int) then (some (0, 0, 3)) else (if 0 ≤ (wrap64 (x1 + x8)) then (if (wrap64 (x1 + x8)) < (x0.length : Int) then (if x8 = 9 then (tikref2_Get.j2 k x0 x1 x7 x8 (IntKind.u64.wrap (rd x0 (wrap64 (x1 + x8)))) (decide ((IntKind.u64.wrap (rd x0 (wrap64 (x1 + x8)))) > 1))) else (tikref2_Get.j2 k x0 x1 x7 x8 (IntKind.u64.wrap (rd x0 (wrap64 (x1 + x8)))) false)) else (none)) else (none))) else (some (0, 0, 2))
def tikref2_Get.j2 : Nat → List Int → Int → Int → Int → Int → Bool → Option (Int × Int × Int)
  | 0, _, _, _, _, _, _ => none
  | k + 1, x0, x1, x7, x8, x9, x40 => if x40 = true then (some (0, 0, 2)) else (if 0 ≤ (IntKind.u64.wrap (wrap64 (7 * x8))) then (if x9 < 128 then (if x9 = 0 then (if x8 > 0 then (some (0, 0, 2)) else (some (Go.bits .or .u64 x7 (shl .u64 (Go.bits .and .u64 x9 127) (IntKind.u64.wrap (wrap64 (7 * x8)))), wrap64 ((wrap64 (x1 + x8)) + 1), 0))) else (some (Go.bits .or .u64 x7 (shl .u64 (Go.bits .and .u64 x9 127) (IntKind.u64.wrap (wrap64 (7 * x8)))), wrap64 ((wrap64 (x1 + x8)) + 1), 0))) else (tikref2_Get.l0 k x0 x1 (Go.bits .or .u64 x7 (shl .u64 (Go.bits .and .u64 x9 127) (IntKind.u64.wrap (wrap64 (7 * x8))))) (wrap64 (x8 + 1)))) else (none))
end
def tikref2_Get.f (k : Nat) (l0 : List Int) (a1 : Int) : Option (Int × Int × Int) := if a1 < 0 then (tikref2_Get.j0 k l0 a1 true) else (tikref2_Get.j0 k l0 a1 (decide (a1 > (l0.length : Int))))
def tikref2_Four.f (a0 : Int) : Option (List Int) := some (([(a0 / 16777216) % 256, (a0 / 65536) % 256, (a0 / 256) % 256, (a0) % 256] : List Int))
mutual
def tikref2_Crc.l0 : Nat → List Int → Int → Int → Option (Int)
  | 0, _, _, _ => none
  | k + 1, x0, x3, x4 => if x4 < (x0.length : Int) then (if 0 ≤ x4 then (tikref2_Crc.l1 k x0 (Go.bits .xor .u32 x3 ((rd x0 x4) % 4294967296)) x4 0) else (none)) else (some (Go.bits .xor .u32 4294967295 x3))
def tikref2_Crc.l1 : Nat → List Int → Int → Int → Int → Option (Int)
  | 0, _, _, _, _ => none
  | k + 1, x0, x3, x4, x5 => if x5 < 8 then (if (Go.bits .and .u32 x3 1) = 1 then (tikref2_Crc.l1 k x0 (Go.bits .xor .u32 (x3 / 2) 3988292384) x4 (wrap64 (x5 + 1))) else (tikref2_Crc.l1 k x0 (x3 / 2) x4 (wrap64 (x5 + 1)))) else (tikref2_Crc.l0 k x0 x3 (wrap64 (x4 + 1)))
end
def tikref2_Crc.f (k : Nat) (l0 : List Int) : Option (Int) := tikref2_Crc.l0 k l0 4294967295 0
def tikref2_Big.l0 : Nat → List Int → Int → Int → Option (Int)
  | 0, _, _, _ => none
  | k + 1, x0, x3, x4 => if x4 < (x0.length : Int) then (if 0 ≤ x4 then (tikref2_Big.l0 k x0 (Go.bits .or .u64 (IntKind.u64.wrap (x3 * 256)) (IntKind.u64.wrap (rd x0 x4))) (wrap64 (x4 + 1))) else (none)) else (some x3)
def tikref2_Big.f (k : Nat) (l0 : List Int) : Option (Int) := tikref2_Big.l0 k l0 0 0
def tikref_CopyBytes.f (l0 : List Int) : Option (List Int) := (some (([] : List Int) : List Int)).bind fun y125 => (if y125.length + l0.length < 140737488355328 then (some (y125 ++ l0)) else (none))
end Go.Proofs.YtlgfmmkabnbllaaDoor.PA
namespace Go.Proofs.YtlgfmmkabnbllaaDoor.PA
open Go.RowKit Go.Proofs.YtlgfmmkabnbllaaDoorW.PrintWords Go.Proofs.YtlgfmmkabnbllaaDoorW.PrintLast Go.Proofs.YtlgfmmkabnbllaaDoorW.PrintMore
attribute [local go_sem] max2_int min2_int max_two min_two max_three min_three max_four min_four
open Go.Proofs.YtlgfmmkabnbllaaDoor.Hand
set_option linter.unusedVariables false
set_option linter.unusedSimpArgs false
end Go.Proofs.YtlgfmmkabnbllaaDoor.PA
namespace Go.Proofs.YtlgfmmkabnbllaaDoor.Hand
open Go.RowKit Go.Proofs.YtlgfmmkabnbllaaDoorW.PrintWords Go.Proofs.YtlgfmmkabnbllaaDoorW.PrintLast Go.Proofs.YtlgfmmkabnbllaaDoorW.PrintMore
def rhoJ : Shelf.Ren where
  f := fun x => match x with | 14 => 80 | 15 => 105 | x => x
  t := fun x => match x with | 0 => 0 | 3 => 3 | 4 => 4 | 5 => 5 | 9 => 9 | 20 => 20 | 22 => 64 | 26 => 132 | x => x
  g := fun x => x
theorem laysJ : SlLaysJ.n14 Tryd.prog rhoJ := by
  constructor
  all_goals first | kernel_rfl | (intro w; kernel_rfl) | (intro w; rfl)
def byteB (x : Int) : Bool := decide (0 ≤ x) && decide (x < 256)
def bytes_Join.f (l0 : List (List Int)) (l1 : List Int) : Option (List Int) :=
  if 2 ≤ l0.length ∧ l0.length ≤ 140737488355328 ∧ l1 = [] ∧ l0.flatten.all byteB = true ∧ l0.flatten.length ≤ 140737488355328 then some l0.flatten else none
theorem spot_of_N {α : Type} {d : Kd α} {e : Nat} {w : World} {base : Nat} {ok : Nat → Prop} {A : Option Addr} {n c : Nat} {xs : List α} (h : Kd.N d e w base ok (.slice A n c) xs) : 0 < xs.length → ∀ ad, A = some ad → ad.spot = none := by
  rintro hp ad rfl
  obtain ⟨g, cap, e1, _⟩ := Kd.N_form h hp
  injection e1 with e1
  injection e1 with e1
  rw [e1]
theorem byteB_iff {x : Int} : byteB x = true ↔ 0 ≤ x ∧ x < 256 := by unfold byteB; simp
theorem ofNat_inj {x y : Int} (hx : 0 ≤ x ∧ x < 256) (hy : 0 ≤ y ∧ y < 256) (h : UInt8.ofNat x.toNat = UInt8.ofNat y.toNat) : x = y := by
  have h := congrArg UInt8.toNat h
  simp only [UInt8.toNat_ofNat'] at h
  rw [Nat.mod_eq_of_lt (by omega), Nat.mod_eq_of_lt (by omega)] at h
  omega
theorem bytesOf_inj : ∀ {a b : List Int}, (∀ x ∈ a, 0 ≤ x ∧ x < 256) → (∀ x ∈ b, 0 ≤ x ∧ x < 256) → Lib.bytesOf a = Lib.bytesOf b → a = b
  | [], [], _, _, _ => rfl
  | [], _ :: _, _, _, h => by simp [Lib.bytesOf] at h
  | _ :: _, [], _, _, h => by simp [Lib.bytesOf] at h
  | x :: a, y :: b, ha, hb, h => by
    simp only [Lib.bytesOf, List.map_cons, List.cons.injEq] at h
    rw [ofNat_inj (ha x (by simp)) (hb y (by simp)) h.1, bytesOf_inj (fun z hz => ha z (by simp [hz])) (fun z hz => hb z (by simp [hz])) h.2]
theorem holds_of_C {w : World} {A : Option Addr} {c : Nat} {l : List Int} (hC : Kd.C (Kd.int .u8) w A l.length l) (hb : ∀ x ∈ l, 0 ≤ x ∧ x < 256) : Lib.HoldsBytes w (.slice A l.length c) (Lib.bytesOf l) := by
  refine ⟨A, c, by simp [Lib.bytesOf], ?_, ?_⟩
  · rintro rfl
    cases l with
    | nil => rfl
    | cons x l => obtain ⟨ad, e, _⟩ := hC.2.2 (by simp); cases e
  · rintro a rfl i x hx
    have hi : i < l.length := by
      have := (List.getElem?_eq_some_iff.1 hx).1
      simpa [Lib.bytesOf] using this
    obtain ⟨ad, e, hc⟩ := hC.2.2 (by omega)
    obtain rfl := Option.some.inj e
    obtain ⟨c1, _, hk, hcell⟩ := hc i l[i] (List.getElem?_eq_getElem hi)
    have hk' : c1 = [.int .u8 l[i]] := hk
    subst hk'
    have h1 := hcell 0 _ rfl
    have h1' : w.cell? (a.add i) = some (.int .u8 l[i]) := by simpa [Kd.int, Kd.scalar] using h1
    rw [h1']
    have hx' : UInt8.ofNat l[i].toNat = x := by simpa [Lib.bytesOf, hi] using hx
    have hr := hb l[i] (List.getElem_mem hi)
    rw [← hx', UInt8.toNat_ofNat', Nat.mod_eq_of_lt (by omega), Int.toNat_of_nonneg hr.1]
theorem chosen {P : Nat → Value → Prop} (n : Nat) (h : ∀ j, j < n → ∃ v, P j v) : ∃ vs : List Value, vs.length = n ∧ ∀ (j : Nat) v, vs[j]? = some v → P j v := by
  induction n with
  | zero => exact ⟨[], rfl, by simp⟩
  | succ n ih =>
    obtain ⟨vs, hl, hv⟩ := ih (fun j hj => h j (by omega))
    obtain ⟨v, hP⟩ := h n (by omega)
    refine ⟨vs ++ [v], by simp [hl], fun j u hu => ?_⟩
    by_cases hj : j < vs.length
    · exact hv j u (by rwa [List.getElem?_append_left hj] at hu)
    · rw [List.getElem?_append_right (by omega)] at hu
      have : j - vs.length = 0 := by
        rcases Nat.eq_zero_or_pos (j - vs.length) with h | h
        · exact h
        · rw [List.getElem?_eq_none (by simp; omega)] at hu; cases hu
      rw [this] at hu
      obtain rfl : v = u := by simpa using hu
      obtain rfl : j = n := by omega
      exact hP
theorem parts_of_C {w : World} {ad : Addr} {l0 : List (List Int)} (hC : Kd.C (Kd.slice 5 (Kd.int .u8)) w (some ad) l0.length l0) (hp : 0 < l0.length) (hb : ∀ l ∈ l0, ∀ x ∈ l, 0 ≤ x ∧ x < 256) : ∃ vs, Lib.PartsAt w ad vs (l0.map Lib.bytesOf) := by
  obtain ⟨ad', e, hc⟩ := hC.2.2 hp
  obtain rfl := Option.some.inj e
  obtain ⟨vs, hl, hv⟩ := chosen (P := fun j v => w.cell? (ad.add j) = some v ∧ Lib.HoldsBytes w v (Lib.bytesOf (l0.getD j []))) l0.length (fun j hj => by
    obtain ⟨c, _, ⟨A, cp, rfl, hcp, hCj⟩, hcell⟩ := hc j l0[j] (List.getElem?_eq_getElem hj)
    have h1 := hcell 0 _ rfl
    refine ⟨_, by simpa [Kd.slice] using h1, ?_⟩
    rw [List.getD_eq_getElem?_getD, List.getElem?_eq_getElem hj]
    exact holds_of_C hCj (hb _ (List.getElem_mem hj)))
  refine ⟨vs, by simp [hl], fun i v hi => (hv i v hi).1, fun i v l hi hl2 => ?_⟩
  have h2 := (hv i v hi).2
  rw [List.getElem?_map] at hl2
  rw [List.getD_eq_getElem?_getD] at h2
  cases hx : l0[i]? with
  | none => rw [hx] at hl2; cases hl2
  | some y => rw [hx] at hl2 h2; obtain rfl : Lib.bytesOf y = l := by simpa using hl2
              exact h2
theorem bytesOf_flatten : ∀ l0 : List (List Int), (l0.map Lib.bytesOf).flatten = Lib.bytesOf l0.flatten
  | [] => rfl
  | x :: l => by simp only [List.map_cons, List.flatten_cons, bytesOf_flatten l]; simp [Lib.bytesOf]
theorem join_flat (ls : List (List UInt8)) : Lib.join ls [] = ls.flatten := by
  cases ls with
  | nil => rfl
  | cons x r => rw [Lib.join_cons]; simp [Lib.joinTail]
theorem V_of_fresh {b : Nat} {w : World} {v : Value} {l : List UInt8} {xs : List Int} (h : Lib.FreshBytes b w v l) (hl : l = Lib.bytesOf xs) (hx : ∀ x ∈ xs, 0 ≤ x ∧ x < 256) : Kd.V (Kd.int .u8) 5 w b (fun k => True ∧ b ≤ k ∧ k < w.heap.size) v xs := by
  obtain ⟨g, cap, zs, rfl, hg, hcap, hmax, hz, hzr, htake, hcell, hfz⟩ := h
  have hlen : l.length = xs.length := by rw [hl]; simp [Lib.bytesOf]
  have hzx : zs.take l.length = xs := bytesOf_inj (fun x hx => hzr x (List.mem_of_mem_take hx)) hx (by rw [htake, hl])
  refine ⟨some ⟨g, 0, none⟩, cap, by rw [hlen], by omega, fun W' hW => ⟨rfl, by unfold maxLen at hmax; omega, fun hn => ⟨_, rfl, fun j p hj => ⟨[.int .u8 p], rfl, rfl, fun i u hu => ?_⟩⟩⟩⟩
  have hi : i = 0 := by
    rcases Nat.eq_zero_or_pos i with h | h
    · exact h
    · rw [List.getElem?_eq_none (by simp; omega)] at hu; cases hu
  subst hi
  obtain rfl : .int .u8 p = u := by simpa using hu
  have hjl : j < xs.length := (List.getElem?_eq_some_iff.1 hj).1
  have h0 := hcell 0 (by omega)
  have hlt := World.block_lt_of_cell? _ _ h0
  have hcj := hcell j (by omega)
  have e1 : (⟨g, 0, none⟩ : Addr).add (j * (Kd.int .u8).sz + 0) = ⟨g, j, none⟩ := by rw [Lib.add_plain2]; simp [Kd.int, Kd.scalar]
  rw [e1, World.cell?_of_block (w := w) (hW g ⟨trivial, hg, hlt⟩ hlt), hcj]
  have hp : zs[j]? = some p := by
    have : (zs.take l.length)[j]? = some p := by rw [hzx]; exact hj
    rwa [List.getElem?_take_of_lt (by omega)] at this
  rw [List.getD_eq_getElem?_getD, hp]; rfl
theorem bytes_Join.calls (A0 : Option Addr) (c0 : Nat) (l0 : List (List Int)) (A1 : Option Addr) (c1 : Nat) (l1 : List Int) (r : List Int) (w : World) (hr0 : Kd.C (Kd.slice 5 (Kd.int .u8)) w A0 l0.length l0) (hc0 : l0.length ≤ c0) (hr1 : Kd.C (Kd.int .u8) w A1 l1.length l1) (hc1 : l1.length ≤ c1) (h : bytes_Join.f l0 l1 = some r)
    (hsp : 0 < l0.length → ∀ ad, A0 = some ad → ad.spot = none) :
    Calls Tryd.prog 80 #[.slice A0 l0.length c0, .slice A1 l1.length c1] w fun e w' => ∃ v0_ : Value, e = .returned (v0_) ∧ Kd.V (Kd.int .u8) 5 w' w.heap.size (fun k_ => True ∧ w.heap.size ≤ k_ ∧ k_ < w'.heap.size) v0_ r ∧ Below w.heap.size w w' := by
  unfold bytes_Join.f at h
  split at h
  case isFalse => cases h
  rename_i hq
  obtain ⟨q1, q2, rfl, q4, q5⟩ := hq
  obtain rfl := Option.some.inj h
  have hb : ∀ x ∈ l0.flatten, 0 ≤ x ∧ x < 256 := fun x hx => byteB_iff.1 (List.all_eq_true.1 q4 x hx)
  have hb2 : ∀ l ∈ l0, ∀ x ∈ l, 0 ≤ x ∧ x < 256 := fun l hl x hx => hb x (List.mem_flatten.2 ⟨l, hl, hx⟩)
  obtain ⟨ad, rfl, _⟩ := hr0.2.2 (by omega)
  have hs := hsp (by omega) ad rfl
  obtain ⟨b, o, sp⟩ := ad
  obtain rfl : sp = none := hs
  obtain ⟨vs, hP⟩ := parts_of_C hr0 (by omega) hb2
  have hlens : Lib.lens (l0.map Lib.bytesOf) = l0.flatten.length := by
    unfold Lib.lens
    rw [List.length_flatten, List.map_map]
    congr 1
    apply List.map_congr_left
    intro x _
    simp [Lib.bytesOf]
  refine (Any.bytes_Join_many laysJ b o l0.length c0 vs (l0.map Lib.bytesOf) (.slice A1 0 c1) [] w (by simp) q1 hP hc0 ⟨A1, c1, rfl, fun _ => rfl, by simp⟩ q2 (by rw [hlens]; simp only [List.length_nil]; omega)).mono ?_
  rintro e w' ⟨v', rfl, hf, hbl⟩
  exact ⟨v', rfl, V_of_fresh hf (by rw [join_flat, bytesOf_flatten]) hb, hbl⟩
end Go.Proofs.YtlgfmmkabnbllaaDoor.Hand

namespace Go.Proofs.YtlgfmmkabnbllaaDoor.Hand
open Go.RowKit Go.Proofs.YtlgfmmkabnbllaaDoorW.PrintWords Go.Proofs.YtlgfmmkabnbllaaDoorW.PrintLast Go.Proofs.YtlgfmmkabnbllaaDoorW.PrintMore Go.Proofs.YtlgfmmkabnbllaaDoor.PA
theorem andNot128 (c : Int) (h0 : 0 ≤ c) (h1 : c < 256) : Go.bits .andNot .u8 c 128 = c % 128 := by
  rw [u8_andNot c 128 h0 h1 (by omega) (by omega)]
  rw [show (255 - (128 : Int).toNat) = 2 ^ 7 - 1 from rfl, Nat.and_two_pow_sub_one_eq_mod]
  omega
theorem or_high (n m s : Nat) (hn : n < 2 ^ s) : n ||| (m * 2 ^ s) = n + m * 2 ^ s := by
  have := Nat.shiftLeft_add_eq_or_of_lt hn m
  rw [Nat.shiftLeft_eq] at this
  rw [Nat.or_comm, ← this, Nat.add_comm]
theorem u8_or128 (a : Int) (h0 : 0 ≤ a) : Go.bits .or .u8 (a % 256) 128 = a % 128 + 128 := by
  rw [u8_or (a % 256) 128 (by omega) (by omega) (by omega) (by omega)]
  have h : (a % 256).toNat ||| 128 = (a % 256).toNat % 128 + 128 := by
    have h1 : (a % 256).toNat < 256 := by omega
    generalize (a % 256).toNat = x at *
    have : ∀ y : Fin 256, y.val ||| 128 = y.val % 128 + 128 := by decide +kernel
    exact this ⟨x, h1⟩
  have h2 : (128 : Int).toNat = 128 := rfl
  rw [h2, h]
  omega
theorem vbound (n c : Int) (i : Nat) (hn : n < 2 ^ (7 * i)) (hc0 : 0 ≤ c) (hc : c < 128) (hi : i ≤ 9) (h9 : i = 9 → c ≤ 1) : c * 2 ^ (7 * i) < 18446744073709551616 ∧ n + c * 2 ^ (7 * i) < 18446744073709551616 ∧ 0 ≤ c * 2 ^ (7 * i) := by
  have : i = 0 ∨ i = 1 ∨ i = 2 ∨ i = 3 ∨ i = 4 ∨ i = 5 ∨ i = 6 ∨ i = 7 ∨ i = 8 ∨ i = 9 := by omega
  rcases this with rfl | rfl | rfl | rfl | rfl | rfl | rfl | rfl | rfl | rfl
  all_goals
    first | (have := h9 rfl) | skip
    simp only [Nat.reduceMul, Int.reducePow] at hn ⊢
    omega
theorem vstep_eq (n c : Int) (i : Nat) (hn0 : 0 ≤ n) (hn : n < 2 ^ (7 * i)) (hc0 : 0 ≤ c) (hc : c < 256) (hi : i ≤ 9) (h9 : i = 9 → c ≤ 1) : vstep n c i = n + (c % 128) * 2 ^ (7 * i) := by
  unfold vstep
  rw [andNot128 c hc0 hc]
  have hb := vbound n (c % 128) i hn (by omega) (by omega) hi (fun h => by have := h9 h; omega)
  have hd : 0 ≤ c % 128 ∧ c % 128 ≤ 18446744073709551615 := by omega
  clear hc0 hc h9
  generalize c % 128 = d at *
  rw [IntWalk.u64_in d hd]
  have hp : (2 : Int) ^ (7 * i) = ((2 ^ (7 * i) : Nat) : Int) := by simp
  rw [hp] at hn hb ⊢
  generalize hq : 2 ^ (7 * i) = q at *
  have e1 : (d * (q : Int)).toNat = d.toNat * q := by rw [Int.toNat_mul hd.1 (Int.natCast_nonneg _), Int.toNat_natCast]
  have e2 := or_high n.toNat d.toNat (7 * i)
  rw [hq] at e2
  have e3 := e2 (by omega)
  have e4 : ((d.toNat * q : Nat) : Int) = d * q := by rw [← e1]; exact Int.toNat_of_nonneg hb.2.2
  generalize d * (q : Int) = m at *
  rw [IntWalk.u64_in m (by omega), u64_or n m hn0 (by omega) (by omega) (by omega), e1, e3, Int.natCast_add, e4]
  omega
def Bytes255 (l : List Int) : Prop := ∀ x ∈ l, 0 ≤ x ∧ x < 256
theorem rd_255 {l : List Int} (h : Bytes255 l) (i : Int) : 0 ≤ rd l i ∧ rd l i < 256 := by
  unfold rd
  rw [List.getD_eq_getElem?_getD]
  rcases Nat.lt_or_ge i.toNat l.length with h1 | h1
  · rw [List.getElem?_eq_getElem h1]; exact h _ (List.getElem_mem h1)
  · rw [List.getElem?_eq_none h1]; simp
end Go.Proofs.YtlgfmmkabnbllaaDoor.Hand
namespace Go.Proofs.YtlgfmmkabnbllaaDoor.Hand
open Go.RowKit Go.Proofs.YtlgfmmkabnbllaaDoorW.PrintWords Go.Proofs.YtlgfmmkabnbllaaDoorW.PrintLast Go.Proofs.YtlgfmmkabnbllaaDoorW.PrintMore Go.Proofs.YtlgfmmkabnbllaaDoor.PA
theorem numL_succ (l : List Int) (d i : Nat) (n at_ c : Int) (hc : rd l at_ = c) : numL l (d + 1) i n at_ = if at_ = l.length then .error 3 else if (i = 9 ∧ c > 1) ∨ (c = 0 ∧ 0 < i) then .error 2 else
    if c < 128 then .ok (vstep n c i, at_ + 1) else numL l d (i + 1) (vstep n c i) (at_ + 1) := by subst hc; rfl
end Go.Proofs.YtlgfmmkabnbllaaDoor.Hand
namespace Go.Proofs.YtlgfmmkabnbllaaDoor.Hand
open Go.RowKit Go.Proofs.YtlgfmmkabnbllaaDoorW.PrintWords Go.Proofs.YtlgfmmkabnbllaaDoorW.PrintLast Go.Proofs.YtlgfmmkabnbllaaDoorW.PrintMore Go.Proofs.YtlgfmmkabnbllaaDoor.PA
def varL : Nat → Int → List Int
  | 0, a => [a % 256]
  | d + 1, a => if a ≥ 128 then (a % 128 + 128) :: varL d (a / 128) else [a % 256]
theorem var_l0 : ∀ (d k : Nat) (a : Int) (x : List Int), 0 ≤ a → a < 18446744073709551616 → a < 128 * 128 ^ d → x.length + d < 140737488355328 → wire_Var.l0 (k + d + 1) a x = some (x ++ varL d a) := by
  intro d
  induction d with
  | zero =>
    intro k a x h0 h1 h2 hl
    have q1 : ¬ a ≥ 128 := by omega
    have q3 : x.length < 140737488355328 := by omega
    rw [wire_Var.l0, if_neg q1, if_pos q3]; rfl
  | succ d ih =>
    intro k a x h0 h1 h2 hl
    have q3 : x.length < 140737488355328 := by omega
    by_cases q1 : a ≥ 128
    · have h3 : a / 128 < 128 * 128 ^ d := by
        rw [Int.pow_succ] at h2
        omega
      have e1 : varL (d + 1) a = (a % 128 + 128) :: varL d (a / 128) := if_pos q1
      have := ih k (a / 128) (x ++ [a % 128 + 128]) (by omega) (by omega) h3 (by simp; omega)
      rw [show x ++ [a % 128 + 128] ++ varL d (a / 128) = x ++ varL (d + 1) a by rw [e1]; simp] at this
      rw [show k + (d + 1) + 1 = (k + d + 1) + 1 by omega, wire_Var.l0, if_pos q1, if_pos q3, u8_or128 a h0]
      exact this
    · have e1 : varL (d + 1) a = [a % 256] := if_neg q1
      rw [show k + (d + 1) + 1 = (k + d + 1) + 1 by omega, e1, wire_Var.l0, if_neg q1, if_pos q3]
theorem wireVar_any (k : Nat) (hk : 10 ≤ k) (a : Int) (h0 : 0 ≤ a) (h1 : a < 18446744073709551616) : wire_Var.f k a = some (varL 9 a) := by
  obtain ⟨k, rfl⟩ : ∃ m, k = m + 9 + 1 := ⟨k - 10, by omega⟩
  exact var_l0 9 k a [] h0 h1 (by simp only [Int.reducePow, Int.reduceMul]; omega) (by simp)
def poly : BitVec 32 := 3988292384#32
def crcB (s : BitVec 32) : BitVec 32 := (s >>> 1) ^^^ (if s.getLsbD 0 then poly else 0#32)
def itB : Nat → BitVec 32 → BitVec 32
  | 0, s => s
  | d + 1, s => itB d (crcB s)
def crcL (l : List Int) (s : BitVec 32) : BitVec 32 := l.foldl (fun s x => itB 8 (s ^^^ BitVec.ofNat 32 x.toNat)) s
def nB (s : BitVec 32) : Int := (s.toNat : Int)
theorem nB_xor (a b : BitVec 32) : Go.bits .xor .u32 (nB a) (nB b) = nB (a ^^^ b) := by
  unfold nB
  rw [u32_xor_nat _ _ a.isLt b.isLt, BitVec.toNat_xor]
theorem nB_half (s : BitVec 32) : nB s / (2 : Int) = nB (s >>> 1) := by
  unfold nB
  rw [BitVec.toNat_ushiftRight, Nat.shiftRight_eq_div_pow]
  omega
theorem nB_low (s : BitVec 32) : Go.bits .and .u32 (nB s) 1 = if s.getLsbD 0 then 1 else 0 := by
  unfold nB
  have := u32_and_nat s.toNat 1 s.isLt (by omega)
  refine this.trans ?_
  rw [Nat.and_one_is_mod]
  have h : s.getLsbD 0 = decide (s.toNat % 2 = 1) := by rw [BitVec.getLsbD, Nat.testBit_zero]
  rw [h]
  by_cases q : s.toNat % 2 = 1
  · rw [q]; simp
  · have : s.toNat % 2 = 0 := by omega
    rw [this]; simp
theorem wire_bit (s : BitVec 32) : Go.bits .xor .u32 (nB s / 2) ((3988292384 * (Go.bits .and .u32 (nB s) 1)) % 4294967296) = nB (crcB s) := by
  rw [nB_low, nB_half]
  unfold crcB
  rw [← nB_xor]
  cases s.getLsbD 0 <;> rfl
theorem wire_l1 (x7 : List Int) (x8 x9 : Int) : ∀ (d k : Nat) (s : BitVec 32), d ≤ 8 → wire_Crc.l1 (k + d + 1) (nB s) x7 x8 x9 (8 - (d : Int)) = wire_Crc.l0 k (nB (itB d s)) x7 x8 (wrap64 (x9 + 1)) := by
  intro d
  induction d with
  | zero => intro k s _; rw [show k + 0 + 1 = k + 1 by omega, wire_Crc.l1, if_neg (by omega)]; rfl
  | succ d ih =>
    intro k s hd
    have w : wrap64 (8 - ((d + 1 : Nat) : Int) + 1) = 8 - (d : Int) := by rw [IntWalk.wrap64_in _ (by omega)]; omega
    rw [show k + (d + 1) + 1 = (k + d + 1) + 1 by omega, wire_Crc.l1, if_pos (by omega), wire_bit, w, ih k _ (by omega)]
    rfl
theorem rd_cons (l : List Int) (i : Nat) (h : i < l.length) : l.drop i = rd l (i : Int) :: l.drop (i + 1) := by
  rw [List.drop_eq_getElem_cons h]
  unfold rd
  rw [Int.toNat_natCast, List.getD_eq_getElem?_getD, List.getElem?_eq_getElem h]; rfl
theorem byte_nB (c : Int) (h0 : 0 ≤ c) (h1 : c < 256) : c % 4294967296 = nB (BitVec.ofNat 32 c.toNat) := by
  unfold nB
  rw [BitVec.toNat_ofNat]
  omega
theorem wire_l0 (l : List Int) (hl : l.length ≤ 9223372036854775000) (hb : Bytes255 l) : ∀ (m k i : Nat) (s : BitVec 32), i + m = l.length →
    wire_Crc.l0 (k + 10 * m + 1) (nB s) l (l.length : Int) (i : Int) = some (nB (crcL (l.drop i) s ^^^ 0xffffffff#32)) := by
  intro m
  induction m with
  | zero =>
    intro k i s h
    rw [show k + 10 * 0 + 1 = k + 1 by omega, wire_Crc.l0, if_neg (by omega), List.drop_of_length_le (by omega)]
    rw [← nB_xor]; rfl
  | succ m ih =>
    intro k i s h
    obtain ⟨h0, h1⟩ := rd_255 hb (i : Int)
    have w : wrap64 ((i : Int) + 1) = ((i + 1 : Nat) : Int) := by rw [IntWalk.wrap64_in _ (by omega)]; omega
    rw [show k + 10 * (m + 1) + 1 = ((k + 10 * m + 1) + 8 + 1) + 1 by omega, wire_Crc.l0, if_pos (by omega), if_pos (by omega), if_pos (by omega), byte_nB _ h0 h1, nB_xor]
    have := wire_l1 l (l.length : Int) (i : Int) 8 (k + 10 * m + 1) (s ^^^ BitVec.ofNat 32 (rd l (i : Int)).toNat) (by omega)
    refine this.trans ?_
    rw [w, ih k (i + 1) _ (by omega), rd_cons l i (by omega)]
    rfl
def crcV (l : List Int) : Int := nB (crcL l 0xffffffff#32 ^^^ 0xffffffff#32)
theorem wireCrc_any (k : Nat) (l : List Int) (hl : l.length ≤ 9223372036854775000) (hb : Bytes255 l) (hk : 10 * l.length + 1 ≤ k) : wire_Crc.f k l = some (crcV l) := by
  obtain ⟨j, rfl⟩ : ∃ j, k = j + 10 * l.length + 1 := ⟨k - (10 * l.length + 1), by omega⟩
  have := wire_l0 l hl hb l.length j 0 0xffffffff#32 (by omega)
  exact this
end Go.Proofs.YtlgfmmkabnbllaaDoor.Hand
namespace Go.Proofs.YtlgfmmkabnbllaaDoor.Hand
open Go.RowKit Go.Proofs.YtlgfmmkabnbllaaDoorW.PrintWords Go.Proofs.YtlgfmmkabnbllaaDoorW.PrintLast Go.Proofs.YtlgfmmkabnbllaaDoor.PA
def stopR (e : Int) : List PanicEntry := [{ v := .iface 161 (.agg #[.int .i64 e]), recovered := false }]
theorem asks_ok {b : Bool} {e : Int} {w : World} (hb : b = true) : Calls Tryd.prog 98 #[.bool b, .int .i64 e] w fun en w' => en = .returned (.tuple #[]) ∧ w = w' := by
  subst hb
  go_enter Tryd.func98, Tryd.ntmps98
  go_wp2
  go_end0
  exact ⟨rfl, rfl⟩
theorem asks_no {b : Bool} {e : Int} {w : World} (hb : b = false) : Calls Tryd.prog 98 #[.bool b, .int .i64 e] w fun en w' => en = .panicked (stopR e) ∧ w = w' := by
  subst hb
  go_enter Tryd.func98, Tryd.ntmps98
  go_wp2
  exact ⟨rfl, rfl, rfl⟩
set_option maxHeartbeats 1000000 in
theorem num_ok {w : World} {A : Option Addr} {c p : Nat} {l : List Int} {a n q : Int} (hr0 : Kd.C (Kd.int .u8) w A l.length l) (hc0 : l.length ≤ c) (hp : w.heap[p]? = some (.cells #[.int .i64 a] 3 (0, 0))) (hg : getV l a = (n, q, 0)) :
    Calls Tryd.prog 99 #[.slice A l.length c, .pointer (some ⟨p, 0, none⟩)] w fun en w' => en = .returned (.int .u64 n) ∧ w'.heap[p]? = some (.cells #[.int .i64 q] 3 (0, 0)) ∧ Mu (· = p) w w' := by
  have HG := Aside0.mk (wire_Get.calls A c l a n q 0 w hr0 hc0 (congrArg some hg))
  have HP := Aside0.mk hp
  have c0 := blk_cell hp 0
  clear hr0 hc0 hp hg
  go_enter Tryd.func99, Tryd.ntmps99
  go_wp2_with fail
  refine HG.out.mono ?_
  rintro en w1 ⟨rfl, hb⟩
  have h1 := (Mu.of_below hb (fun _ => False)).heap HP.out (fun h => h)
  have H1 := Aside0.mk h1
  have HB := Aside0.mk hb
  have c1 := blk_cell h1 0
  have f1 := blk_frozen h1 0
  clear h1 hb HG
  go_wp2_with fail
  refine (asks_ok rfl).mono ?_
  rintro en w2 ⟨rfl, rfl⟩
  go_wp2_with fail
  go_ret
  exact ⟨rfl, set_0 H1.out, (Mu.of_below HB.out (· = p)).setCell (p := ⟨p, 0, none⟩) (fun _ => rfl) _⟩
set_option maxHeartbeats 1000000 in
theorem num_no {w : World} {A : Option Addr} {c p : Nat} {l : List Int} {a n q e : Int} (hr0 : Kd.C (Kd.int .u8) w A l.length l) (hc0 : l.length ≤ c) (hp : w.heap[p]? = some (.cells #[.int .i64 a] 3 (0, 0))) (hg : getV l a = (n, q, e)) (he : e ≠ 0) :
    Calls Tryd.prog 99 #[.slice A l.length c, .pointer (some ⟨p, 0, none⟩)] w fun en w' => en = .panicked (stopR e) ∧ Below w.heap.size w w' := by
  have HG := Aside0.mk (wire_Get.calls A c l a n q e w hr0 hc0 (congrArg some hg))
  have c0 := blk_cell hp 0
  have he' : (e == 0) = false := beq_eq_false_iff_ne.2 he
  clear hr0 hc0 hp hg he
  go_enter Tryd.func99, Tryd.ntmps99
  go_wp2_with fail
  refine HG.out.mono ?_
  rintro en w1 ⟨rfl, hb⟩
  have HB := Aside0.mk hb
  clear hb HG
  go_wp2_with fail
  refine (asks_no rfl).mono ?_
  rintro en w2 ⟨rfl, rfl⟩
  exact ⟨rfl, rfl, HB.out⟩
set_option maxHeartbeats 1000000 in
theorem rcaught_nil {w : World} : Calls Tryd.prog 97 #[.nilIface] w fun en w' => en = .returned (.int .i64 0) ∧ w' = w := by
  go_enter Tryd.func97, Tryd.ntmps97
  go_wp2
  go_ret
  exact ⟨rfl, rfl⟩
set_option maxHeartbeats 1000000 in
theorem rcaught_stop {w : World} {X : Int} : Calls Tryd.prog 97 #[.iface 161 (.agg #[.int .i64 X])] w fun en w' => en = .returned (.int .i64 X) ∧ Below w.heap.size w w' := by
  have hta : ∀ (v : Value) (W : World), (Instr.typeAssert (.iface 161 v) 20 161 true).run Tryd.prog W = .ok (.tuple #[v, .bool true]) W := fun v W => by kernel_rfl
  go_enter Tryd.func97, Tryd.ntmps97
  go_wp2
  go_ret
  refine ⟨rfl, ?_⟩
  first
    | exact below_alloc (Below.refl _ _) _
    | exact (below_alloc (Below.refl _ _) _).trans (by simp)
    | trace_state
end Go.Proofs.YtlgfmmkabnbllaaDoor.Hand
namespace Go.Proofs.YtlgfmmkabnbllaaDoor.Hand
open Go.RowKit Go.Proofs.YtlgfmmkabnbllaaDoorW.PrintWords Go.Proofs.YtlgfmmkabnbllaaDoorW.PrintLast Go.Proofs.YtlgfmmkabnbllaaDoor.PA
abbrev recO (k s t : Int) (v : Value) : Obj := .cells #[.int .i64 k, .int .u64 s, .int .u64 t, v] 88 (0, 0)
theorem rec_store {W : World} {g : Nat} {k s t : Int} (k' s' t' : Int) {v : Value} (A : Option Addr) (n c : Nat) (h : W.heap[g]? = some (recO k s t v)) :
    ∃ W', (Instr.storeAt 88 (.pointer (some ⟨g, 0, none⟩)) (.agg #[.int .i64 k', .int .u64 s', .int .u64 t', .slice A n c])).run Tryd.prog W = .ok () W' ∧ W'.heap[g]? = some (recO k' s' t' (.slice A n c)) ∧ Mu (· = g) W W' := by
  refine ⟨W.setRow g #[.int .i64 k', .int .u64 s', .int .u64 t', .slice A n c], ?_, setRow_heap W g _ _ _ _ h, ⟨rfl, rfl, rfl, by simp, fun j _ hj => setRow_other W g j _ hj⟩⟩
  simp only [Instr.storeAt, Instr.sureAddr, Sem.run_bind, Sem.run_pure, Result.andThen_ok, run_storeVar_row (P := Tryd.prog) W g 88 88 _ #[.int .i64 k', .int .u64 s', .int .u64 t', .slice A n c] h (by kernel_rfl) rfl (by simp [Value.oneCell'])]
theorem rec_load {W : World} {g : Nat} {k s t : Int} {v : Value} (h : W.heap[g]? = some (recO k s t v)) :
    (Instr.loadAt 88 (.pointer (some ⟨g, 0, none⟩))).run Tryd.prog W = .ok (.agg #[.int .i64 k, .int .u64 s, .int .u64 t, v]) W := by
  simp only [Instr.loadAt, Instr.sureAddr, Sem.run_bind, Sem.run_pure, Result.andThen_ok, run_loadVar_row (P := Tryd.prog) W g 88 88 _ (0, 0) _ h Tryd.underlying88 rfl (by kernel_rfl)]
theorem rec_build (W : World) : (Instr.build 88 #[]).run Tryd.prog W = .ok (.agg #[.int .i64 0, .int .u64 0, .int .u64 0, .slice none 0 0]) W :=
  run_build (P := Tryd.prog) W 88 #[] _ (by kernel_rfl)
theorem wpList_storeR {P : Program} {ops : Array Oper} {rest : List Oper} {o : Oper} {a : Act} {w w' : World} {Q : Exit → Act → World → Prop} (hgd : o.guard = none) (ty : TypeId) (x y : Operand) (ho : o.op = .store ty x y) {u v : Value} (hx : a.eval x = u) (hy : a.eval y = v)
    (hr : (Instr.storeAt ty u v).run P w = .ok () w') (h : wpList P ops Q rest (a.put o.dst undef) w') : wpList P ops Q (o :: rest) a w :=
  wpList_plain hgd fun _ hK => by
    unfold Oper.wp execOp
    simp only [ho, hx, hy, Sem.run_bind, hr, Result.andThen_ok, Sem.run_pure]
    exact hK _ _ h
theorem wpList_loadR {P : Program} {ops : Array Oper} {rest : List Oper} {o : Oper} {a : Act} {w : World} {Q : Exit → Act → World → Prop} (hgd : o.guard = none) (ty : TypeId) (x : Operand) (ho : o.op = .load ty x) {u v : Value} (hx : a.eval x = u)
    (hr : (Instr.loadAt ty u).run P w = .ok v w) (h : wpList P ops Q rest (a.put o.dst v) w) : wpList P ops Q (o :: rest) a w :=
  wpList_plain hgd fun _ hK => by
    unfold Oper.wp execOp
    simp only [ho, hx, Sem.run_bind, hr, Result.andThen_ok, Sem.run_pure]
    exact hK _ _ h
noncomputable def dec_rest : Code := match Tryd.f96.body with | some (.seq _ c) => c | _ => .skip
set_option maxRecDepth 100000 in
set_option maxHeartbeats 1000000 in
theorem dec_rest_stop {w : World} {p : Nat} {k s t e : Int} {v rv : Value} {X f : Int} (hX : (X != 0) = true)
    (h0 : w.heap[p]? = some (recO k s t v)) (h1 : w.heap[p + 1]? = some (.cells #[.int .i64 e] 3 (0, 0))) (h2 : w.heap[p + 1 + 1]? = some (.cells #[.int .i64 f] 32 (0, 0))) :
    Code.wp Tryd.prog dec_rest (fun en a' w' => en = .normal ∧ a'.defers = [] ∧ w'.heap[p]? = some (recO 0 0 0 (.slice none 0 0)) ∧ w'.heap[p + 1]? = some (.cells #[.int .i64 0] 3 (0, 0)) ∧ w'.heap[p + 1 + 1]? = some (.cells #[.int .i64 X] 32 (0, 0)) ∧ Mu (fun k => p ≤ k) w w')
      { tmps := #[.pointer (some ⟨p, 0, none⟩), .pointer (some ⟨p + 1, 0, none⟩), .pointer (some ⟨p + 1 + 1, 0, none⟩), .int .i64 X, rv, .int .i64 X, undef, undef, undef, undef], defers := [] } w := by
  obtain ⟨W1, hst, g0, m0⟩ := rec_store 0 0 0 none 0 0 h0
  have g1 := m0.heap h1 (by omega)
  have g2 := m0.heap h2 (by omega)
  obtain ⟨W2, hW2⟩ : ∃ W2, W1.setCell ⟨p + 1, 0, none⟩ (.int .i64 0) = W2 := ⟨_, rfl⟩
  have j1 : W2.heap[p + 1]? = some (.cells #[.int .i64 0] 3 (0, 0)) := by rw [← hW2]; exact set_0 g1
  have m1 : Mu (· = p + 1) W1 W2 := by rw [← hW2]; exact (Mu.refl (· = p + 1) W1).setCell (p := ⟨p + 1, 0, none⟩) (fun _ => rfl) _
  have j0 := m1.heap g0 (by omega)
  have j2 := m1.heap g2 (by omega)
  have HF := Aside0.mk (And.intro j0 (And.intro j1 (And.intro j2 (And.intro m0 m1))))
  have HW := Aside0.mk hW2
  have d1 := blk_cell g1 0
  have y1 := blk_frozen g1 0
  have d2 := blk_cell g2 0
  have y2 := blk_frozen g2 0
  have hbd := rec_build
  clear h0 h1 h2 g0 g1 g2 m0 m1 j0 j1 j2 hW2
  unfold dec_rest Tryd.f96
  go_wp2_with ((with_reducible refine gate_ (.store 88 (.tmp 0) (.tmp 8)) rfl ?_); refine wpList_storeR rfl _ _ _ rfl (by rfl) (by rfl) hst ?_)
  rw [HW.out]
  obtain ⟨j0, j1, j2, m0, m1⟩ := HF.out
  refine ⟨(Below.heap_setCell _ _ _ _ (by show p ≠ p + 1 + 1; omega)).trans j0, (Below.heap_setCell _ _ _ _ (by show p + 1 ≠ p + 1 + 1; omega)).trans j1, set_0 j2, ?_⟩
  exact ((m0.mono (fun k _ h => by show p ≤ k; omega)).trans (m1.mono (fun k _ h => by show p ≤ k; omega))).setCell (p := ⟨p + 1 + 1, 0, none⟩) (fun _ => by show p ≤ p + 1 + 1; omega) _
set_option maxRecDepth 100000 in
set_option maxHeartbeats 1000000 in
theorem dec_stop {w : World} {p : Nat} {k s t e : Int} {v : Value} {X f : Int} {older : List PanicEntry} (hX : (X != 0) = true)
    (h0 : w.heap[p]? = some (recO k s t v)) (h1 : w.heap[p + 1]? = some (.cells #[.int .i64 e] 3 (0, 0))) (h2 : w.heap[p + 1 + 1]? = some (.cells #[.int .i64 f] 32 (0, 0))) :
    CallsD Tryd.prog 96 #[.pointer (some ⟨p, 0, none⟩), .pointer (some ⟨p + 1, 0, none⟩), .pointer (some ⟨p + 1 + 1, 0, none⟩)]
      (.panicking ({ v := .iface 161 (.agg #[.int .i64 X]), recovered := false } :: older)) w fun en u w' =>
      en = .returned (.tuple #[]) ∧ u = .panicking ({ v := .iface 161 (.agg #[.int .i64 X]), recovered := true } :: older) ∧
        w'.heap[p]? = some (recO 0 0 0 (.slice none 0 0)) ∧ w'.heap[p + 1]? = some (.cells #[.int .i64 0] 3 (0, 0)) ∧ w'.heap[p + 1 + 1]? = some (.cells #[.int .i64 X] 32 (0, 0)) ∧ Mu (fun k => p ≤ k) w w' := by
  refine callsD_of_wpS Tryd.func96 rfl fun c₀ cs hu => ?_
  have fin : ∀ (w1 : World), Below w.heap.size w w1 → ∀ (en : Exit) (a' : Act) (w' : World), (en = .normal ∧ a'.defers = [] ∧ w'.heap[p]? = some (recO 0 0 0 (.slice none 0 0)) ∧ w'.heap[p + 1]? = some (.cells #[.int .i64 0] 3 (0, 0)) ∧ w'.heap[p + 1 + 1]? = some (.cells #[.int .i64 X] 32 (0, 0)) ∧ Mu (fun k => p ≤ k) w1 w') →
      bodyPostS Tryd.prog Tryd.f96 c₀ cs (fun en u w' => en = .returned (.tuple #[]) ∧ u = .panicking ({ v := .iface 161 (.agg #[.int .i64 X]), recovered := true } :: older) ∧
        w'.heap[p]? = some (recO 0 0 0 (.slice none 0 0)) ∧ w'.heap[p + 1]? = some (.cells #[.int .i64 0] 3 (0, 0)) ∧ w'.heap[p + 1 + 1]? = some (.cells #[.int .i64 X] 32 (0, 0)) ∧ Mu (fun k => p ≤ k) w w') en a'
        ({ c₀ with mode := .panicking ({ v := .iface 161 (.agg #[.int .i64 X]), recovered := true } :: older) } :: cs) w' := by
    rintro w1 hb en a' w' ⟨rfl, hd, g0, g1, g2, hm⟩
    exact ⟨hd, _, rfl, .tuple #[], results_none rfl _ _ _, rfl, rfl, g0, g1, g2, (Mu.of_below hb _).trans hm⟩
  have HS := Aside0.mk (And.intro h0 (And.intro h1 h2))
  clear h0 h1 h2
  apply wpS_seq
  apply wpS_region
  simp [wpOpsS, go_sem, recoverD, hu, Tryd.ntmps96]
  refine rcaught_stop.mono ?_
  rintro en w1 ⟨rfl, hb⟩
  have hm := Mu.of_below hb (fun _ => False)
  have r := dec_rest_stop (rv := .iface 161 (.agg #[.int .i64 X])) hX (hm.heap HS.out.1 (fun h => h)) (hm.heap HS.out.2.1 (fun h => h)) (hm.heap HS.out.2.2 (fun h => h))
  simp [wpOpsS, go_sem, Exit.thenS]
  refine wpS_of_wp ?_
  refine wp_act (a' := { tmps := #[.pointer (some ⟨p, 0, none⟩), .pointer (some ⟨p + 1, 0, none⟩), .pointer (some ⟨p + 1 + 1, 0, none⟩), .int .i64 X, .iface 161 (.agg #[.int .i64 X]), .int .i64 X, undef, undef, undef, undef], defers := [] }) (by kernel_rfl) ?_
  refine wp_code (c' := dec_rest) (by kernel_rfl) ?_
  exact Code.wp_mono (fin w1 hb) r
set_option maxRecDepth 100000 in
set_option maxHeartbeats 1000000 in
theorem dec_rest_idle {w : World} {p1 p2 p3 rv : Value} :
    Code.wp Tryd.prog dec_rest (fun en a' w' => en = .normal ∧ a'.defers = [] ∧ w' = w)
      { tmps := #[p1, p2, p3, .int .i64 0, rv, .int .i64 0, undef, undef, undef, undef], defers := [] } w := by
  unfold dec_rest Tryd.f96
  go_wp2
set_option maxRecDepth 100000 in
set_option maxHeartbeats 1000000 in
theorem dec_idle {w : World} {p1 p2 p3 : Value} :
    CallsD Tryd.prog 96 #[p1, p2, p3] .returning w fun en u w' => en = .returned (.tuple #[]) ∧ u = .returning ∧ w' = w := by
  refine callsD_of_wpS Tryd.func96 rfl fun c₀ cs hu => ?_
  have fin : ∀ (en : Exit) (a' : Act) (w' : World), (en = .normal ∧ a'.defers = [] ∧ w' = w) →
      bodyPostS Tryd.prog Tryd.f96 c₀ cs (fun en u w' => en = .returned (.tuple #[]) ∧ u = .returning ∧ w' = w) en a' (c₀ :: cs) w' := by
    rintro en a' w' ⟨rfl, hd, rfl⟩
    exact ⟨hd, .returning, by rw [← hu], .tuple #[], results_none rfl _ _ _, rfl, rfl, rfl⟩
  apply wpS_seq
  apply wpS_region
  simp [wpOpsS, go_sem, recoverD, hu, Tryd.ntmps96]
  refine rcaught_nil.mono ?_
  rintro en w1 ⟨rfl, rfl⟩
  simp [wpOpsS, go_sem, Exit.thenS]
  refine wpS_of_wp ?_
  refine wp_act (a' := { tmps := #[p1, p2, p3, .int .i64 0, .nilIface, .int .i64 0, undef, undef, undef, undef], defers := [] }) (by kernel_rfl) ?_
  refine wp_code (c' := dec_rest) (by kernel_rfl) ?_
  exact Code.wp_mono fin dec_rest_idle
end Go.Proofs.YtlgfmmkabnbllaaDoor.Hand
namespace Go.Proofs.YtlgfmmkabnbllaaDoor.Hand
open Go.RowKit Go.Proofs.YtlgfmmkabnbllaaDoorW.PrintWords Go.Proofs.YtlgfmmkabnbllaaDoorW.PrintLast
theorem info5 : (Tryd.prog.info? 5).map (fun i => (i.zero, i.size, i.bytes)) = some (some (.int .u8 0), 1, 1) := by kernel_rfl
def copyOf (l : List Int) (w : World) (en : Ending) (w' : World) : Prop := ∃ v, en = .returned v ∧ Kd.R (Kd.int .u8) 5 w' w.heap.size (fun _ => True) v l ∧ Below w.heap.size w w'
set_option maxHeartbeats 1000000 in
theorem clone_any {w : World} {A : Option Addr} {c : Nat} {l : List Int} (hC : Kd.C (Kd.int .u8) w A l.length l) (hc : l.length ≤ c) (hl : l.length < 140737488355328) :
    Calls Tryd.prog 100 #[.slice A l.length c] w (copyOf l w) := by
  have HC := Aside0.mk hC
  clear hC
  have HB := Aside0.mk (Below.refl w.heap.size w)
  cases A with
  | none =>
    obtain rfl : l = [] := by
      cases l with
      | nil => rfl
      | cons x l =>
        obtain ⟨ad, e, _⟩ := HC.out.2.2 (by simp)
        cases e
    have hq : ∀ w : World, (binOp .eql 64 (.slice none 0 c) (.slice none 0 0)).run Tryd.prog w = .ok (.bool true) w := fun w => Lib.run_eql_slice_nil w 64 5 none 0 c 0 0 Tryd.underlying64
    show Calls Tryd.prog 100 #[.slice none 0 c] w (copyOf [] w)
    go_enter Tryd.func100, Tryd.ntmps100
    go_wp2
    go_ret
    exact ⟨_, rfl, Kd.R_nil _ _ _ _ _, Below.refl _ _⟩
  | some ad =>
    have hq : ∀ w : World, (binOp .eql 64 (.slice (some ad) l.length c) (.slice none 0 0)).run Tryd.prog w = .ok (.bool false) w := fun w => Lib.run_eql_slice_nil w 64 5 (some ad) l.length c 0 0 Tryd.underlying64
    have HL := Aside0.mk hl
    clear hl
    go_enter Tryd.func100, Tryd.ntmps100
    go_wp2_with (first
      | ((with_reducible refine gate_dst (N := 5) rfl ?_); refine Kd.R_lit (Kd.int .u8) w.heap.size 5 ?hg (N := 5) ?hd (xs := ([] : List Int)) (inner := []) (ok := fun _ => True) (okp := fun _ => True) ?hr ?hp (fun _ hk => hk) trivial (Below.refl _ _) (Nat.le_refl _) (by simp) ?_; (case hd => rfl); (case hg => rfl); (case hr => first | (go_simp; done) | (go_simp; rfl)); (case hp => exact (Reps.none _ _)); intro v1 w1 ho hb hg_ hnew_; clear hg_ hnew_; have HO1 := Aside0.mk ho; have HB1 := Aside0.mk hb; clear ho hb HB)
      | ((with_reducible refine gate_builtin (b := .append) (xs := #[.tmp 5, .tmp 6]) rfl ?_); at_builtin; refine Kd.R_append_rows (Kd.int .u8) (w0 := w) w.heap.size rfl (.tmp 5) (.tmp 6) 64 5 (.int .u8 0) 1 rfl Tryd.underlying64 info5 rfl (by decide) (by omega) v1 [] l _ _ _ (fun _ => True) (fun _ => False) rfl rfl HO1.out (Kd.C_below HC.out HB1.out) (fun _ _ h => h) (fun _ h => h.elim) (fun _ _ => trivial) HB1.out HB1.out.size (by have := HL.out; simp; omega) ?_; intro v2 w2 ho hb hg hat; have HO2 := Aside0.mk ho; have HB2 := Aside0.mk hb; clear ho hb hg hat HO1 HB1))
    go_ret
    exact ⟨_, rfl, HO2.out, HB2.out⟩
end Go.Proofs.YtlgfmmkabnbllaaDoor.Hand
namespace Go.Proofs.YtlgfmmkabnbllaaDoor.Hand
open Go.RowKit Go.Proofs.YtlgfmmkabnbllaaDoorW.PrintWords Go.Proofs.YtlgfmmkabnbllaaDoorW.PrintLast Go.Proofs.YtlgfmmkabnbllaaDoor.PA
def fourL (c : Int) : List Int := [(c / 16777216) % 256, (c / 65536) % 256, (c / 256) % 256, c % 256]
def mayL (k s t n : Int) : Prop := (k = 1 ∨ k = 2) ∧ 1 ≤ s ∧ s ≤ 4611686018427387904 ∧ t ≤ 4611686018427387904 ∧ n ≤ 1048576
instance (k s t n : Int) : Decidable (mayL k s t n) := by unfold mayL; infer_instance
def segL (l : List Int) (i j : Int) : List Int := (l.take j.toNat).drop i.toNat
def decV (l : List Int) (a : Int) : Except Int (Int × Int × Int × List Int × Int) :=
  if 6 ≤ (l.length : Int) - a then
  if rd l a = 167 ∧ rd l (a + 1) = 92 then
  if a + 6 < (l.length : Int) then
  if (getV l (a + 7)).2.2 = 0 then
  if (getV l (getV l (a + 7)).2.1).2.2 = 0 then
  if (getV l (getV l (getV l (a + 7)).2.1).2.1).2.2 = 0 then
  if (getV l (getV l (getV l (a + 7)).2.1).2.1).1 ≤ 1048576 then
  if (getV l (getV l (getV l (a + 7)).2.1).2.1).1 ≤ (l.length : Int) - (getV l (getV l (getV l (a + 7)).2.1).2.1).2.1 then
  if segL l (a + 2) (a + 6) = fourL (crcV (segL l (a + 6) ((getV l (getV l (getV l (a + 7)).2.1).2.1).2.1 + (getV l (getV l (getV l (a + 7)).2.1).2.1).1))) then
  if mayL (rd l (a + 6)) (getV l (a + 7)).1 (getV l (getV l (a + 7)).2.1).1 (getV l (getV l (getV l (a + 7)).2.1).2.1).1 then
  .ok (rd l (a + 6), (getV l (a + 7)).1, (getV l (getV l (a + 7)).2.1).1, segL l (getV l (getV l (getV l (a + 7)).2.1).2.1).2.1 ((getV l (getV l (getV l (a + 7)).2.1).2.1).2.1 + (getV l (getV l (getV l (a + 7)).2.1).2.1).1), (getV l (getV l (getV l (a + 7)).2.1).2.1).2.1 + (getV l (getV l (getV l (a + 7)).2.1).2.1).1)
  else .error 2 else .error 9 else .error 3 else .error 2 else .error (getV l (getV l (getV l (a + 7)).2.1).2.1).2.2 else .error (getV l (getV l (a + 7)).2.1).2.2 else .error (getV l (a + 7)).2.2 else .error 3 else .error 2 else .error 3
def decOut : Except Int (Int × Int × Int × List Int × Int) → Int × Int × Int × List Int × Int × Int
  | .ok (k, s, t, b, e) => (k, s, t, b, e, 0)
  | .error x => (0, 0, 0, [], 0, x)
def rec_Decode.f (l0 : List Int) (a1 : Int) : Option (Int × Int × Int × List Int × Int × Int) :=
  if l0.all byteB = true ∧ l0.length < 140737488355328 then some (if a1 < 0 ∨ (l0.length : Int) < a1 then (0, 0, 0, [], 0, 1) else decOut (decV l0 a1)) else none
theorem dec_results {tmps : Array Value} {w : World} {p : Nat} {k s t e X : Int} {v : Value} (h4 : tmps[4]? = some (.pointer (some ⟨p, 0, none⟩))) (h5 : tmps[5]? = some (.pointer (some ⟨p + 1, 0, none⟩))) (h6 : tmps[6]? = some (.pointer (some ⟨p + 1 + 1, 0, none⟩)))
    (g0 : w.heap[p]? = some (recO k s t v)) (g1 : w.heap[p + 1]? = some (.cells #[.int .i64 e] 3 (0, 0))) (g2 : w.heap[p + 1 + 1]? = some (.cells #[.int .i64 X] 32 (0, 0))) :
    (results Tryd.f70 tmps).run Tryd.prog w = .ok (.tuple #[.agg #[.int .i64 k, .int .u64 s, .int .u64 t, v], .int .i64 e, .int .i64 X]) w := by
  have e4 : tmps.getD 4 undef = .pointer (some ⟨p, 0, none⟩) := by simp [Array.getD_eq_getD_getElem?, h4]
  have e5 : tmps.getD 5 undef = .pointer (some ⟨p + 1, 0, none⟩) := by simp [Array.getD_eq_getD_getElem?, h5]
  have e6 : tmps.getD 6 undef = .pointer (some ⟨p + 1 + 1, 0, none⟩) := by simp [Array.getD_eq_getD_getElem?, h6]
  have c1 := blk_cell g1 0
  have c2 := blk_cell g2 0
  have l0 : (loadVar 88 ⟨p, 0, none⟩).run Tryd.prog w = .ok (.agg #[.int .i64 k, .int .u64 s, .int .u64 t, v]) w := run_loadVar_row (P := Tryd.prog) w p 88 88 _ (0, 0) _ g0 Tryd.underlying88 rfl (by kernel_rfl)
  have l1 : (loadVar 3 ⟨p + 1, 0, none⟩).run Tryd.prog w = .ok (.int .i64 e) w := by simp [go_sem, c1]
  have l2 : (loadVar 32 ⟨p + 1 + 1, 0, none⟩).run Tryd.prog w = .ok (.int .i64 X) w := by simp [go_sem, c2]
  have hr : Tryd.f70.results = #[.cell 4 88, .cell 5 3, .cell 6 32] := by kernel_rfl
  unfold results
  rw [hr]
  simp [h4, h5, h6, l0, l1, l2, asAddr]
theorem three_new (w : World) (o0 o1 o2 : Obj) : ∃ W, ((w.alloc o0).alloc o1).alloc o2 = W ∧ W.heap[w.heap.size]? = some o0 ∧ W.heap[w.heap.size + 1]? = some o1 ∧ W.heap[w.heap.size + 1 + 1]? = some o2 ∧ W.heap.size = w.heap.size + 3 ∧ Below w.heap.size w W := by
  have s1 : (w.alloc o0).heap.size = w.heap.size + 1 := by simp
  have s2 : ((w.alloc o0).alloc o1).heap.size = w.heap.size + 1 + 1 := by simp
  refine ⟨_, rfl, alloc_old (alloc_old (alloc_new _ _)), ?_, ?_, by simp, below_alloc (below_alloc (below_alloc (Below.refl _ _) _) _) _⟩
  · have := alloc_new (w.alloc o0) o1
    rw [s1] at this
    exact alloc_old this
  · have := alloc_new ((w.alloc o0).alloc o1) o2
    rw [s2] at this
    exact this
def DecPost (w : World) (r : Int × Int × Int × List Int × Int × Int) (e : Ending) (w' : World) : Prop :=
  ∃ v3_ : Value, e = .returned (.tuple #[.agg #[.int .i64 r.1, .int .u64 r.2.1, .int .u64 r.2.2.1, v3_], .int .i64 r.2.2.2.2.1, .int .i64 r.2.2.2.2.2]) ∧ Kd.R (Kd.int .u8) 5 w' w.heap.size (fun _ => True) v3_ r.2.2.2.1 ∧ Below w.heap.size w w'
theorem set4_0 {w : World} {g t : Nat} {a b c d x : Value} (h : w.heap[g]? = some (.cells #[a, b, c, d] t (0, 0))) : (w.setCell ⟨g, 0, none⟩ x).heap[g]? = some (.cells #[x, b, c, d] t (0, 0)) := by
  simp [World.setCell, Array.getElem?_modify, h]
theorem set4_1 {w : World} {g t : Nat} {a b c d x : Value} (h : w.heap[g]? = some (.cells #[a, b, c, d] t (0, 0))) : (w.setCell ⟨g, 1, none⟩ x).heap[g]? = some (.cells #[a, x, c, d] t (0, 0)) := by
  simp [World.setCell, Array.getElem?_modify, h]
theorem set4_2 {w : World} {g t : Nat} {a b c d x : Value} (h : w.heap[g]? = some (.cells #[a, b, c, d] t (0, 0))) : (w.setCell ⟨g, 2, none⟩ x).heap[g]? = some (.cells #[a, b, x, d] t (0, 0)) := by
  simp [World.setCell, Array.getElem?_modify, h]
theorem set4_3 {w : World} {g t : Nat} {a b c d x : Value} (h : w.heap[g]? = some (.cells #[a, b, c, d] t (0, 0))) : (w.setCell ⟨g, 3, none⟩ x).heap[g]? = some (.cells #[a, b, c, x] t (0, 0)) := by
  simp [World.setCell, Array.getElem?_modify, h]
theorem cutSeg (A : Option Addr) (c : Nat) (l : List Int) (lo hi : Int) (h0 : 0 ≤ lo) (h1 : lo ≤ hi) (h2 : hi ≤ l.length) (hc : l.length ≤ c) :
    ∃ A', (∀ W : World, (Instr.slice 64 (.slice A l.length c) (some (.int .i64 lo)) (some (.int .i64 hi)) none).run Tryd.prog W = .ok (.slice A' (segL l lo hi).length (c - lo.toNat)) W) ∧
      (∀ W : World, Kd.C (Kd.int .u8) W A l.length l → Kd.C (Kd.int .u8) W A' (segL l lo hi).length (segL l lo hi)) ∧ (segL l lo hi).length ≤ c - lo.toNat := by
  have hlen : (segL l lo hi).length = hi.toNat - lo.toNat := by
    unfold segL
    rw [List.length_drop, List.length_take, Nat.min_eq_left (by omega)]
  obtain ⟨i0, hi0, _, hz1, _⟩ := info_parts info5
  refine ⟨if c = lo.toNat then A else A.map (·.add (lo.toNat * 1)), fun W => ?_, fun W hC => ?_, by omega⟩
  · rw [cut_mid (P := Tryd.prog) 64 5 .i64 .i64 Tryd.underlying64 hi0 1 hz1 A l.length c lo hi h0 h1 h2 hc W, hlen]
  · exact Kd.C_mid (lo := lo.toNat) (hi := hi.toNat) hC (by omega) (by omega) hc
theorem numL_ok (l : List Int) : ∀ (k i : Nat) (n p : Int) (m q : Int), 0 ≤ n → n ≤ 18446744073709551615 → p ≤ l.length → numL l k i n p = .ok (m, q) → 0 ≤ m ∧ m ≤ 18446744073709551615 ∧ p ≤ q ∧ q ≤ l.length
  | 0, i, n, p, m, q, _, _, _, h => by simp only [numL] at h; cases h
  | k + 1, i, n, p, m, q, h0, h1, hp, h => by
    have hv : 0 ≤ vstep n (rd l p) i ∧ vstep n (rd l p) i ≤ 18446744073709551615 := by
      unfold vstep
      exact bounds_u64 (wf_bits .or .u64 _ _)
    generalize hvv : vstep n (rd l p) i = v at *
    simp only [numL, hvv] at h
    split at h
    · cases h
    · rename_i hne
      split at h
      · cases h
      · split at h
        · injection h with h
          injection h with h1 h2
          subst h1 h2
          exact ⟨hv.1, hv.2, by omega, by omega⟩
        · have := numL_ok l k (i + 1) v (p + 1) m q hv.1 hv.2 (by omega) h
          exact ⟨this.1, this.2.1, by omega, this.2.2.2⟩
theorem getV_ok {l : List Int} {a n q : Int} (h : getV l a = (n, q, 0)) : 0 ≤ a ∧ 0 ≤ n ∧ n ≤ 18446744073709551615 ∧ a ≤ q ∧ q ≤ l.length := by
  unfold getV at h
  split at h
  · injection h with _ h; injection h with _ h; cases h
  · split at h
    · injection h with _ h; injection h with _ h; cases h
    · rename_i h0 h1
      cases hn : numL l 10 0 0 a with
      | error x =>
        rw [hn] at h
        injection h with _ h
        injection h with _ h
        subst h
        have := numL_nz l _ _ _ _ _ hn
        cases this
      | ok np =>
        obtain ⟨n', q'⟩ := np
        rw [hn] at h
        injection h with e1 h
        injection h with e2 _
        subst e1 e2
        have := numL_ok l 10 0 0 a n' q' (by omega) (by omega) (by omega) hn
        exact ⟨by omega, this⟩
theorem leave_stop {w0 w : World} {tmps : Array Value} {k s t e X f : Int} {v : Value} (hX : (X != 0) = true) (h4 : tmps[4]? = some (.pointer (some ⟨w0.heap.size, 0, none⟩))) (h5 : tmps[5]? = some (.pointer (some ⟨w0.heap.size + 1, 0, none⟩))) (h6 : tmps[6]? = some (.pointer (some ⟨w0.heap.size + 1 + 1, 0, none⟩)))
    (hb : Below w0.heap.size w0 w) (h0 : w.heap[w0.heap.size]? = some (recO k s t v)) (h1 : w.heap[w0.heap.size + 1]? = some (.cells #[.int .i64 e] 3 (0, 0))) (h2 : w.heap[w0.heap.size + 1 + 1]? = some (.cells #[.int .i64 f] 32 (0, 0))) :
    Leaves Tryd.prog Tryd.f70 tmps (DecPost w0 (decOut (.error X))) [{ target := .fn (.func 96) #[.pointer (some ⟨w0.heap.size, 0, none⟩), .pointer (some ⟨w0.heap.size + 1, 0, none⟩), .pointer (some ⟨w0.heap.size + 1 + 1, 0, none⟩)], args := #[] }] (.panicking (stopR X)) w := by
  refine leaves_cons (f := 96) (args := #[.pointer (some ⟨w0.heap.size, 0, none⟩), .pointer (some ⟨w0.heap.size + 1, 0, none⟩), .pointer (some ⟨w0.heap.size + 1 + 1, 0, none⟩)]) (by simp) (by simp [go_sem]) ?_
  refine (dec_stop (older := []) hX h0 h1 h2).mono ?_
  rintro en u w3 ⟨rfl, rfl, g0, g1, g2, hm⟩
  exact ⟨_, dec_results h4 h5 h6 g0 g1 g2, _, rfl, Kd.R_nil _ _ _ _ _, Mu.below_of hb hm (by intro i hi; omega)⟩
theorem leaves_congr {P : Program} {fn : Func} {t t' : Array Value} {R : Ending → World → Prop} (h : results fn t = results fn t') : ∀ (ds : List Deferred) (u : FrameMode) (w : World), Leaves P fn t R ds u w → Leaves P fn t' R ds u w
  | [], .returning, w, hl => by
    obtain ⟨v, h1, h2⟩ := hl
    exact ⟨v, by rw [← h]; exact h1, h2⟩
  | [], .panicking _, _, hl => hl
  | [], .run, _, hl => hl
  | d :: ds, u, w, hl => by
    obtain ⟨h1, fv, cap, f, args, h2, h3, h4⟩ := hl
    refine ⟨h1, fv, cap, f, args, h2, h3, h4.mono ?_⟩
    intro e u' w' hh
    cases e with
    | returned _ => exact leaves_congr h ds _ _ hh
    | panicked _ => exact leaves_congr h ds _ _ hh
    | outgrown => exact hh
theorem dec_put {a : Act} {N : Tmp} {v : Value} (h4 : N ≠ 4) (h5 : N ≠ 5) (h6 : N ≠ 6) : results Tryd.f70 (a.put (some N) v).tmps = results Tryd.f70 a.tmps := by
  have hr : Tryd.f70.results = #[.cell 4 88, .cell 5 3, .cell 6 32] := by kernel_rfl
  have e : ∀ i, N ≠ i → (a.tmps.setIfInBounds N v)[i]? = a.tmps[i]? := fun i hi => Array.getElem?_setIfInBounds_ne hi
  unfold results
  rw [hr]
  simp [Act.put, e 4 h4, e 5 h5, e 6 h6]
theorem dec_hQ {w0 : World} {R : Int × Int × Int × List Int × Int × Int} {K : Act → World → Prop} (N : Tmp) (v : Value) (h4 : N ≠ 4) (h5 : N ≠ 5) (h6 : N ≠ 6) (c : List PanicEntry) (a : Act) (w : World)
    (h : Exit.then K (bodyPostD Tryd.prog Tryd.f70 (DecPost w0 R)) (.panic c) (a.put (some N) v) w) : Exit.then K (bodyPostD Tryd.prog Tryd.f70 (DecPost w0 R)) (.panic c) a w :=
  leaves_congr (dec_put h4 h5 h6) _ _ _ h
section
variable {P : Program} {ops : Array Oper} {Q : Exit → Act → World → Prop}
theorem goesP_ {oi : Oper} {N : Option Tmp} {a : Act} {w : World} {K : Act → World → Prop} {f : FuncId} {fn : Func} {xs_ : Array Operand} {ts : Array TypeId} (hf : P.funcs[f]? = some fn) (hname : (fn.name == "runtime.NumGoroutine") = false) (hb : fn.body.isSome = true) (args : Array Value)
    (hw : Region.wanted oi (yielded ops a.tmps) = true) (hN : oi.dst = N) (hop : oi.op = .call { callee := .value (.func f), args := xs_, argTypes := ts }) (hargs : xs_.map a.eval = args)
    (h : Calls P f args w fun e w' => ∃ c, e = .panicked c ∧ Q (.panic c) a w') : if Region.wanted oi (yielded ops a.tmps) = true then Oper.wp P oi a w K Q else K (a.put N undef) w := by
  have he := enters_ hf hname hb args w
  have hrun : (execOp a.eval oi).run P w = .ok (.enter f args) w := by
    unfold execOp
    simp [hop, resolve, Deferred.ofValue, invoke, Act.eval, hargs, he]
  rw [if_pos hw]
  unfold Oper.wp
  rw [hrun, Oper.upon_enter]
  refine h.mono fun e w'' hh => ?_
  obtain ⟨c, rfl, hk⟩ := hh
  exact hk
theorem exec_load {w : World} {ev : Operand → Value} {o : Oper} {t : TypeId} {x : Operand} {u v : Value} (ho : o.op = .load t x) (hx : ev x = u) (hr : (Instr.loadAt t u).run P w = .ok v w) : (execOp ev o).run P w = .ok (.value v) w := by
  unfold execOp
  simp only [ho, hx, Sem.run_bind, hr, Result.andThen_ok, Sem.run_pure]
theorem exec_store {w w' : World} {ev : Operand → Value} {o : Oper} {t : TypeId} {x y : Operand} {u v : Value} (ho : o.op = .store t x y) (hx : ev x = u) (hy : ev y = v) (hr : (Instr.storeAt t u v).run P w = .ok () w') : (execOp ev o).run P w = .ok .skip w' := by
  unfold execOp
  simp only [ho, hx, hy, Sem.run_bind, hr, Result.andThen_ok, Sem.run_pure]
end
theorem st_end {W : World} {g t : Nat} {x : Int} {y : Value} (h : W.heap[g]? = some (.cells #[y] t (0, 0))) : (Instr.storeAt 3 (.pointer (some ⟨g, 0, none⟩)) (.int .i64 x)).run Tryd.prog W = .ok () (W.setCell ⟨g, 0, none⟩ (.int .i64 x)) := by
  have c := blk_cell h 0
  have f := blk_frozen h 0
  simp [go_sem, c, f]
theorem st_err {W : World} {g t : Nat} {x : Int} {y : Value} (h : W.heap[g]? = some (.cells #[y] t (0, 0))) : (Instr.storeAt 32 (.pointer (some ⟨g, 0, none⟩)) (.int .i64 x)).run Tryd.prog W = .ok () (W.setCell ⟨g, 0, none⟩ (.int .i64 x)) := by
  have c := blk_cell h 0
  have f := blk_frozen h 0
  simp [go_sem, c, f]
theorem seg_bytes {l : List Int} (h : Bytes255 l) (i j : Int) : Bytes255 (segL l i j) := fun x hx => h x (List.mem_of_mem_take (List.mem_of_mem_drop hx))
theorem four_bytes (c : Int) : Bytes255 (fourL c) := by
  intro x hx
  simp only [fourL, List.mem_cons, List.not_mem_nil, or_false] at hx
  rcases hx with rfl | rfl | rfl | rfl <;> omega
theorem equal_bytes {a b : List Int} (ha : Bytes255 a) (hb : Bytes255 b) : ((strOfNums a).toList == (strOfNums b).toList) = decide (a = b) := by
  rw [Lib.strOfNums_toList, Lib.strOfNums_toList]
  by_cases h : a = b
  · rw [h]; simp
  · rw [decide_eq_false h, beq_eq_false_iff_ne]
    exact fun e => h (bytesOf_inj ha hb e)
theorem may_f (k s t : Int) (l : List Int) : rec_May.f k s t l = some (decide (mayL k s t l.length)) := by
  unfold rec_May.f mayL
  by_cases h1 : k = 1 <;> by_cases h2 : k = 2 <;> by_cases h3 : 1 ≤ s <;> by_cases h4 : s ≤ 4611686018427387904 <;> by_cases h5 : t ≤ 4611686018427387904 <;> simp [h1, h2, h3, h4, h5]
set_option maxRecDepth 100000 in
set_option maxHeartbeats 4000000 in
theorem dec_main {A0 : Option Addr} {c0 : Nat} {l0 : List Int} {a1 : Int} {R : Except Int (Int × Int × Int × List Int × Int)} {w : World} (hr0 : Kd.C (Kd.int .u8) w A0 l0.length l0) (hc0 : l0.length ≤ c0) (hb : Bytes255 l0) (hl : l0.length < 140737488355328) (h1 : 0 ≤ a1) (h2 : a1 ≤ l0.length) (hR : decV l0 a1 = R) :
    Calls Tryd.prog 70 #[.slice A0 l0.length c0, .int .i64 a1] w (DecPost w (decOut R)) := by
  have e1 : decide (a1 < 0) = false := decide_eq_false (by omega)
  have e2 : decide ((l0.length : Int) < a1) = false := decide_eq_false (by omega)
  obtain ⟨W, hW, b0, b1, b2, hWs, hWb⟩ := three_new w (recO 0 0 0 (.slice none 0 0)) (.cells #[.int .i64 0] 3 (0, 0)) (.cells #[.int .i64 0] 32 (0, 0))
  have HW := Aside0.mk hW
  have B0 := Aside0.mk b0
  have B1 := Aside0.mk b1
  have B2 := Aside0.mk b2
  have HWs := Aside0.mk hWs
  have HWb := Aside0.mk hWb
  have HCC := Aside0.mk (And.intro hr0 (And.intro hc0 hb))
  have hmf : ∀ (fn : Fn) (first cap : Array Value) (w : World), (Instr.makeFunc fn first cap).run Tryd.prog w = .ok (.func fn first cap) w := fun _ _ _ _ => rfl
  clear hW b0 b1 b2 hWs hWb hr0 hc0 hb
  go_enter_defers Tryd.func70, Tryd.ntmps70
  go_wp2_with fail
  rw [HW.out]
  by_cases q1 : 6 ≤ (l0.length : Int) - a1
  case neg =>
    have d1 : decide (6 ≤ (l0.length : Int) - a1) = false := decide_eq_false q1
    have hr : R = .error 3 := hR.symm.trans (if_neg q1)
    subst hr
    clear q1 hR
    refine (asks_no d1).mono ?_
    rintro en w2 ⟨rfl, rfl⟩
    exact leave_stop rfl rfl rfl rfl HWb.out B0.out B1.out B2.out
  have d1 : decide (6 ≤ (l0.length : Int) - a1) = true := decide_eq_true q1
  have HR1 := Aside0.mk ((if_pos q1).symm.trans hR)
  have Q1 := Aside0.mk q1
  clear hR
  refine (asks_ok d1).mono ?_
  rintro en w2 ⟨rfl, rfl⟩
  clear d1 q1
  have hCW := Kd.C_below HCC.out.1 HWb.out
  obtain ⟨ad, ea, hx⟩ := Kd.at_int hCW a1 h1 (by have := Q1.out; omega)
  subst ea
  obtain ⟨ad2, ea2, hx2⟩ := Kd.at_int hCW (a1 + 1) (by omega) (by have := Q1.out; omega)
  obtain rfl := Option.some.inj ea2
  have hw1 : IntKind.i64.wrap (a1 + 1) = a1 + 1 := IntWalk.i64_in _ (by omega)
  have hw6 : IntKind.i64.wrap (a1 + 6) = a1 + 6 := IntWalk.i64_in _ (by omega)
  have hlt1 : a1 < (l0.length : Int) := by have := Q1.out; omega
  have hlt2 : a1 + 1 < (l0.length : Int) := by have := Q1.out; omega
  have hge2 : 0 ≤ a1 + 1 := by omega
  have HCW := Aside0.mk hCW
  clear hCW ea2
  have stop2 : ¬ (rd l0 a1 = 167 ∧ rd l0 (a1 + 1) = 92) → R = .error 2 := fun hn => HR1.out.symm.trans (if_neg hn)
  by_cases k1 : rd l0 a1 = 167
  case neg =>
    have d2 : (rd l0 a1 == 167) = false := beq_eq_false_iff_ne.2 k1
    have hr := stop2 (fun h => k1 h.1)
    subst hr
    clear k1 HR1 stop2
    go_wp2_with fail
    refine (asks_no rfl).mono ?_
    rintro en w2 ⟨rfl, rfl⟩
    exact leave_stop rfl rfl rfl rfl HWb.out B0.out B1.out B2.out
  have d2 : (rd l0 a1 == 167) = true := beq_iff_eq.2 k1
  by_cases k2 : rd l0 (a1 + 1) = 92
  case neg =>
    have d3 : (rd l0 (a1 + 1) == 92) = false := beq_eq_false_iff_ne.2 k2
    have hr := stop2 (fun h => k2 h.2)
    subst hr
    clear k1 k2 HR1 stop2
    go_wp2_with fail
    refine (asks_no rfl).mono ?_
    rintro en w2 ⟨rfl, rfl⟩
    exact leave_stop rfl rfl rfl rfl HWb.out B0.out B1.out B2.out
  have d3 : (rd l0 (a1 + 1) == 92) = true := beq_iff_eq.2 k2
  have HR2 := Aside0.mk ((if_pos (And.intro k1 k2)).symm.trans HR1.out)
  clear k1 k2 HR1 stop2
  go_wp2_with fail
  refine (asks_ok rfl).mono ?_
  rintro en w2 ⟨rfl, rfl⟩
  clear d2 d3 hx hx2
  by_cases q3 : a1 + 6 < (l0.length : Int)
  case neg =>
    have d3 : decide (a1 + 6 < (l0.length : Int)) = false := decide_eq_false q3
    have hr : R = .error 3 := HR2.out.symm.trans (if_neg q3)
    subst hr
    clear q3 HR2
    go_wp2_with fail
    refine (asks_no rfl).mono ?_
    rintro en w2 ⟨rfl, rfl⟩
    exact leave_stop rfl rfl rfl rfl HWb.out B0.out B1.out B2.out
  have d3 : decide (a1 + 6 < (l0.length : Int)) = true := decide_eq_true q3
  have HR3 := Aside0.mk ((if_pos q3).symm.trans HR2.out)
  clear HR2
  go_wp2_with fail
  refine (asks_ok rfl).mono ?_
  rintro en w2 ⟨rfl, rfl⟩
  obtain ⟨ad2, ea2, hx⟩ := Kd.at_int HCW.out (a1 + 6) (by omega) q3
  obtain rfl := Option.some.inj ea2
  have hge6 : 0 ≤ a1 + 6 := by omega
  have hw7 : IntKind.i64.wrap (a1 + 6 + 1) = a1 + 7 := by rw [IntWalk.i64_in _ (by omega)]; omega
  have hrd := rd_255 HCC.out.2.2 (a1 + 6)
  have hwb : IntKind.i64.wrap (rd l0 (a1 + 6)) = rd l0 (a1 + 6) := IntWalk.i64_in _ (by omega)
  have u0 := blk_cell B0.out 0
  have u0f := blk_frozen B0.out 0
  have u1 := blk_cell B1.out 0
  have u1f := blk_frozen B1.out 0
  obtain ⟨W1, hW1⟩ : ∃ W1, (W.setCell ⟨w.heap.size, 0, none⟩ (.int .i64 (rd l0 (a1 + 6)))).setCell ⟨w.heap.size + 1, 0, none⟩ (.int .i64 (a1 + 7)) = W1 := ⟨_, rfl⟩
  have m1 : Mu (fun k => w.heap.size ≤ k) W W1 := by rw [← hW1]; exact ((Mu.refl _ W).setCell (p := ⟨w.heap.size, 0, none⟩) (fun _ => Nat.le_refl _) _).setCell (p := ⟨w.heap.size + 1, 0, none⟩) (fun _ => Nat.le_succ _) _
  have G0 : W1.heap[w.heap.size]? = some (recO (rd l0 (a1 + 6)) 0 0 (.slice none 0 0)) := by rw [← hW1, Below.heap_setCell _ _ _ _ (by show w.heap.size ≠ w.heap.size + 1; omega)]; exact set4_0 B0.out
  have G1 : W1.heap[w.heap.size + 1]? = some (.cells #[.int .i64 (a1 + 7)] 3 (0, 0)) := by rw [← hW1]; exact set_0 ((Below.heap_setCell _ _ _ _ (by show w.heap.size + 1 ≠ w.heap.size; omega)).trans B1.out)
  have G2 : W1.heap[w.heap.size + 1 + 1]? = some (.cells #[.int .i64 0] 32 (0, 0)) := by rw [← hW1, Below.heap_setCell _ _ _ _ (by show w.heap.size + 1 + 1 ≠ w.heap.size + 1; omega), Below.heap_setCell _ _ _ _ (by show w.heap.size + 1 + 1 ≠ w.heap.size; omega)]; exact B2.out
  have HG := Aside0.mk (And.intro G0 (And.intro G1 (And.intro G2 (Mu.below_of HWb.out m1 (by intro i hi; omega)))))
  have HW1 := Aside0.mk hW1
  have Q3 := Aside0.mk q3
  clear m1 G0 G1 G2 hW1 hrd ea2
  go_wp2_with fail
  rw [HW1.out]
  clear u0 u0f u1 u1f hx hwb HW1 B0 B1 B2 HWb
  obtain ⟨K1, hK1⟩ : ∃ k, rd l0 (a1 + 6) = k := ⟨_, rfl⟩
  rw [hK1] at HG HR3
  rcases hg1 : getV l0 (a1 + 7) with ⟨n1, p1, x1⟩
  rw [hg1] at HR3
  by_cases z1 : x1 = 0
  case neg =>
    have hr : R = .error x1 := HR3.out.symm.trans (if_neg z1)
    subst hr
    clear HR3
    refine (num_no (Kd.C_below HCC.out.1 HG.out.2.2.2) HCC.out.2.1 HG.out.2.1 hg1 z1).mono ?_
    rintro en w2 ⟨rfl, hb⟩
    have hm := Mu.of_below hb (fun _ => False)
    exact leave_stop (bne_iff_ne.2 z1) rfl rfl rfl (below_step HG.out.2.2.2 hb) (hm.heap HG.out.1 (fun h => h)) (hm.heap HG.out.2.1 (fun h => h)) (hm.heap HG.out.2.2.1 (fun h => h))
  subst z1
  have HR4 := Aside0.mk ((if_pos rfl).symm.trans HR3.out)
  refine (num_ok (Kd.C_below HCC.out.1 HG.out.2.2.2) HCC.out.2.1 HG.out.2.1 hg1).mono ?_
  rintro en W2 ⟨rfl, g1_, hm⟩
  have HGb := Aside0.mk (And.intro (hm.heap HG.out.1 (by omega)) (And.intro g1_ (And.intro (hm.heap HG.out.2.2.1 (by omega)) (Mu.below_of HG.out.2.2.2 hm (by intro i hi; omega)))))
  have GV1 := Aside0.mk (getV_ok hg1)
  clear hm g1_ HR3 HG hg1
  go_wp2_with fail
  rcases hg2 : getV l0 p1 with ⟨n2, p2, x2⟩
  rw [hg2] at HR4
  by_cases z2 : x2 = 0
  case neg =>
    have hr : R = .error x2 := HR4.out.symm.trans (if_neg z2)
    subst hr
    clear HR4
    refine (num_no (Kd.C_below HCC.out.1 HGb.out.2.2.2) HCC.out.2.1 HGb.out.2.1 hg2 z2).mono ?_
    rintro en w2 ⟨rfl, hb⟩
    have hm := Mu.of_below hb (fun _ => False)
    exact leave_stop (bne_iff_ne.2 z2) rfl rfl rfl (below_step HGb.out.2.2.2 hb) (hm.heap HGb.out.1 (fun h => h)) (hm.heap HGb.out.2.1 (fun h => h)) (hm.heap HGb.out.2.2.1 (fun h => h))
  subst z2
  have HR5 := Aside0.mk ((if_pos rfl).symm.trans HR4.out)
  refine (num_ok (Kd.C_below HCC.out.1 HGb.out.2.2.2) HCC.out.2.1 HGb.out.2.1 hg2).mono ?_
  rintro en W3 ⟨rfl, g1_, hm⟩
  have HGbb := Aside0.mk (And.intro (hm.heap HGb.out.1 (by omega)) (And.intro g1_ (And.intro (hm.heap HGb.out.2.2.1 (by omega)) (Mu.below_of HGb.out.2.2.2 hm (by intro i hi; omega)))))
  have GV2 := Aside0.mk (getV_ok hg2)
  clear hm g1_ HR4 HGb hg2
  have u1 := blk_cell HGbb.out.1 1
  have u1f := blk_frozen HGbb.out.1 1
  have u2 := blk_cell HGbb.out.1 2
  have u2f := blk_frozen HGbb.out.1 2
  obtain ⟨W4, hW4⟩ : ∃ W4, (W3.setCell ⟨w.heap.size, 1, none⟩ (.int .u64 n1)).setCell ⟨w.heap.size, 2, none⟩ (.int .u64 n2) = W4 := ⟨_, rfl⟩
  have m4 : Mu (· = w.heap.size) W3 W4 := by rw [← hW4]; exact ((Mu.refl (· = w.heap.size) W3).setCell (p := ⟨w.heap.size, 1, none⟩) (fun _ => rfl) _).setCell (p := ⟨w.heap.size, 2, none⟩) (fun _ => rfl) _
  have g0 : W4.heap[w.heap.size]? = some (recO K1 n1 n2 (.slice none 0 0)) := by rw [← hW4]; exact set4_2 (set4_1 HGbb.out.1)
  have HH := Aside0.mk (And.intro g0 (And.intro (m4.heap HGbb.out.2.1 (by omega)) (And.intro (m4.heap HGbb.out.2.2.1 (by omega)) (Mu.below_of HGbb.out.2.2.2 m4 (by intro i hi; omega)))))
  have HW4 := Aside0.mk hW4
  clear m4 g0 hW4 HGbb
  go_wp2_with fail
  rw [HW4.out]
  clear u1 u1f u2 u2f HW4
  rcases hg3 : getV l0 p2 with ⟨n3, p3, x3⟩
  rw [hg3] at HR5
  by_cases z3 : x3 = 0
  case neg =>
    have hr : R = .error x3 := HR5.out.symm.trans (if_neg z3)
    subst hr
    clear HR5
    refine (num_no (Kd.C_below HCC.out.1 HH.out.2.2.2) HCC.out.2.1 HH.out.2.1 hg3 z3).mono ?_
    rintro en w2 ⟨rfl, hb⟩
    have hm := Mu.of_below hb (fun _ => False)
    exact leave_stop (bne_iff_ne.2 z3) rfl rfl rfl (below_step HH.out.2.2.2 hb) (hm.heap HH.out.1 (fun h => h)) (hm.heap HH.out.2.1 (fun h => h)) (hm.heap HH.out.2.2.1 (fun h => h))
  subst z3
  have HR6 := Aside0.mk ((if_pos rfl).symm.trans HR5.out)
  refine (num_ok (Kd.C_below HCC.out.1 HH.out.2.2.2) HCC.out.2.1 HH.out.2.1 hg3).mono ?_
  rintro en W5 ⟨rfl, g1_, hm⟩
  have HHb := Aside0.mk (And.intro (hm.heap HH.out.1 (by omega)) (And.intro g1_ (And.intro (hm.heap HH.out.2.2.1 (by omega)) (Mu.below_of HH.out.2.2.2 hm (by intro i hi; omega)))))
  have GV3 := Aside0.mk (getV_ok hg3)
  clear hm g1_ HR5 HH hg3
  have G3 := GV3.out
  go_wp2_with fail
  by_cases q7 : n3 ≤ 1048576
  case neg =>
    have hr : R = .error 2 := HR6.out.symm.trans (if_neg q7)
    subst hr
    clear HR6
    refine (asks_no (decide_eq_false q7)).mono ?_
    rintro en w2 ⟨rfl, rfl⟩
    exact leave_stop rfl rfl rfl rfl HHb.out.2.2.2 HHb.out.1 HHb.out.2.1 HHb.out.2.2.1
  have HR7 := Aside0.mk ((if_pos q7).symm.trans HR6.out)
  clear HR6
  refine (asks_ok (decide_eq_true q7)).mono ?_
  rintro en w2 ⟨rfl, rfl⟩
  have v1 := blk_cell HHb.out.2.1 0
  have hwa : IntKind.i64.wrap ((l0.length : Int) - p3) = (l0.length : Int) - p3 := IntWalk.i64_in _ (by omega)
  have hwc : IntKind.u64.wrap ((l0.length : Int) - p3) = (l0.length : Int) - p3 := IntWalk.u64_in _ (by omega)
  have hwn : IntKind.i64.wrap n3 = n3 := IntWalk.i64_in _ (by omega)
  have hwe : IntKind.i64.wrap (p3 + n3) = p3 + n3 := IntWalk.i64_in _ (by omega)
  clear G3
  go_wp2_with fail
  by_cases q8 : n3 ≤ (l0.length : Int) - p3
  case neg =>
    have hr : R = .error 3 := HR7.out.symm.trans (if_neg q8)
    subst hr
    clear HR7
    refine (asks_no (decide_eq_false q8)).mono ?_
    rintro en w2 ⟨rfl, rfl⟩
    exact leave_stop rfl rfl rfl rfl HHb.out.2.2.2 HHb.out.1 HHb.out.2.1 HHb.out.2.2.1
  have HR8 := Aside0.mk ((if_pos q8).symm.trans HR7.out)
  clear HR7
  refine (asks_ok (decide_eq_true q8)).mono ?_
  rintro en w2 ⟨rfl, rfl⟩
  have GV12 := And.intro GV1.out (And.intro GV2.out GV3.out)
  obtain ⟨A3, hcut3, hC3, hl3⟩ := cutSeg (some ad) c0 l0 p3 (p3 + n3) (by omega) (by omega) (by omega) HCC.out.2.1
  have HC3 := Aside0.mk (clone_any (hC3 W5 (Kd.C_below HCC.out.1 HHb.out.2.2.2)) hl3 (by unfold segL; rw [List.length_drop, List.length_take]; omega))
  have Q7 := Aside0.mk q7
  have Q8 := Aside0.mk q8
  clear GV12 hC3 q7 q8
  go_wp2_with fail
  refine HC3.out.mono ?_
  rintro en W6 ⟨v, rfl, hr6, hb6⟩
  obtain ⟨A6, c6, rfl⟩ := Kd.R_slice hr6
  have hm6 := Mu.of_below hb6 (fun _ => False)
  have HI := Aside0.mk (And.intro (hm6.heap HHb.out.1 (fun h => h)) (And.intro (hm6.heap HHb.out.2.1 (fun h => h)) (And.intro (hm6.heap HHb.out.2.2.1 (fun h => h)) (below_step HHb.out.2.2.2 hb6))))
  have HB6 := Aside0.mk (And.intro (Kd.R_bound hr6) (heap_lt HHb.out.2.2.1))
  have HS5 := Aside0.mk HHb.out.2.2.2.size
  clear hcut3 HC3 hr6 hb6 hm6 v1 HHb hl3
  have u3 := blk_cell HI.out.1 3
  have u3f := blk_frozen HI.out.1 3
  have u1 := blk_cell HI.out.2.1 0
  have u1f := blk_frozen HI.out.2.1 0
  obtain ⟨W7, hW7⟩ : ∃ W7, (W6.setCell ⟨w.heap.size, 3, none⟩ (.slice A6 (segL l0 p3 (p3 + n3)).length c6)).setCell ⟨w.heap.size + 1, 0, none⟩ (.int .i64 (p3 + n3)) = W7 := ⟨_, rfl⟩
  have m7 : Mu (fun k => w.heap.size ≤ k ∧ k ≤ w.heap.size + 1) W6 W7 := by rw [← hW7]; exact ((Mu.refl _ W6).setCell (p := ⟨w.heap.size, 3, none⟩) (fun _ => ⟨Nat.le_refl _, Nat.le_succ _⟩) _).setCell (p := ⟨w.heap.size + 1, 0, none⟩) (fun _ => ⟨Nat.le_succ _, Nat.le_refl _⟩) _
  have g0 : W7.heap[w.heap.size]? = some (recO K1 n1 n2 (.slice A6 (segL l0 p3 (p3 + n3)).length c6)) := by rw [← hW7, Below.heap_setCell _ _ _ _ (by show w.heap.size ≠ w.heap.size + 1; omega)]; exact set4_3 HI.out.1
  have g1 : W7.heap[w.heap.size + 1]? = some (.cells #[.int .i64 (p3 + n3)] 3 (0, 0)) := by rw [← hW7]; exact set_0 ((Below.heap_setCell _ _ _ _ (by show w.heap.size + 1 ≠ w.heap.size; omega)).trans HI.out.2.1)
  have g2 := m7.heap HI.out.2.2.1 (by omega)
  have HJ := Aside0.mk (And.intro g0 (And.intro g1 (And.intro g2 (Mu.below_of HI.out.2.2.2 m7 (by intro i hi; omega)))))
  have HB7 := Aside0.mk (Kd.R_mono (Kd.R_move HB6.out.1 (fun k hk => m7.block k hk.2.2.1 (by have := hk.2.1; have := HB6.out.2; omega))) (fun _ _ => trivial) : Kd.R (Kd.int .u8) 5 W7 W5.heap.size (fun _ => True) _ _)
  have H5 := Aside0.mk (And.intro HB6.out.2 HS5.out)
  have HW7 := Aside0.mk hW7
  have hwe : IntKind.i64.wrap (p3 + n3) = p3 + n3 := by have := GV3.out; have := Q7.out; have := Q8.out; exact IntWalk.i64_in _ (by omega)
  have hwn : IntKind.i64.wrap n3 = n3 := by have := GV3.out; have := Q7.out; exact IntWalk.i64_in _ (by omega)
  clear hW7 m7 g0 g1 g2
  go_upto_region 15 with fail
  rw [HW7.out]
  clear u3 u3f u1 u1f HW7 hwn hwe HI HB6 HS5
  have GVV := And.intro GV1.out (And.intro GV2.out GV3.out)
  have hwa2 : IntKind.i64.wrap (a1 + 2) = a1 + 2 := IntWalk.i64_in _ (by omega)
  obtain ⟨AS, hcutS, hCS, hlS⟩ := cutSeg (some ad) c0 l0 (a1 + 2) (a1 + 6) (by omega) (by omega) (by omega) HCC.out.2.1
  obtain ⟨AC, hcutC, hCC, hlC⟩ := cutSeg (some ad) c0 l0 (a1 + 6) (p3 + n3) (by omega) (by have := Q7.out; have := Q8.out; omega) (by have := Q8.out; omega) HCC.out.2.1
  have HCS := Aside0.mk hCS
  have HCCr := Aside0.mk hCC
  have hlc : (segL l0 (a1 + 6) (p3 + n3)).length ≤ l0.length := by unfold segL; rw [List.length_drop, List.length_take]; omega
  have hcrc := wireCrc_any (10 * (segL l0 (a1 + 6) (p3 + n3)).length + 1) _ (by omega) (seg_bytes HCC.out.2.2 (a1 + 6) (p3 + n3)) (Nat.le_refl _)
  have HCrc := Aside0.mk hcrc
  have HlS := Aside0.mk hlS
  have HlC := Aside0.mk hlC
  have HEq := Aside0.mk (equal_bytes (seg_bytes HCC.out.2.2 (a1 + 2) (a1 + 6)) (four_bytes (crcV (segL l0 (a1 + 6) (p3 + n3)))))
  clear GVV hCS hCC hlc hcrc hlS hlC
  refine start_ (n := 13) (S := fun W => W.cell? ⟨w.heap.size + 1, 0, none⟩ = some (.int .i64 (p3 + n3))) (ds := [12]) #[false, false, false, false, false, false, false, false, false, false, false, false, false] (by kernel_rfl) rfl rfl (blk_cell HJ.out.2.1 0) (fun hS => ?_)
  refine pure_ (i := 0) (N := some 86) (v := ?_) (a' := ?_) #[true, false, false, false, false, false, false, false, false, false, false, false, false] rfl rfl (by kernel_rfl) (dec_hQ 86 _ (by decide) (by decide) (by decide)) (Or.inl ⟨by rfl, ?_⟩) ?_ ?_
  rotate_left
  · intro w'
    go_simp
    with_reducible rfl
  rotate_left
  · simp only [Act.put, List.setIfInBounds_toArray, List.set_cons_zero, List.set_cons_succ, i64_w, i32_w]
    rfl
  refine pure_ (i := 1) (N := some 87) (v := ?_) (a' := ?_) #[true, true, false, false, false, false, false, false, false, false, false, false, false] rfl rfl (by kernel_rfl) (dec_hQ 87 _ (by decide) (by decide) (by decide)) (Or.inl ⟨by rfl, ?_⟩) ?_ ?_
  rotate_left
  · intro w'
    go_simp
    with_reducible rfl
  rotate_left
  · simp only [Act.put, List.setIfInBounds_toArray, List.set_cons_zero, List.set_cons_succ, i64_w, i32_w]
    rfl
  refine pure_ (i := 2) (N := some 88) (v := ?_) (a' := ?_) #[true, true, true, false, false, false, false, false, false, false, false, false, false] rfl rfl (by kernel_rfl) (dec_hQ 88 _ (by decide) (by decide) (by decide)) (Or.inl ⟨by rfl, ?_⟩) ?_ ?_
  rotate_left
  · intro w'
    go_simp
    with_reducible rfl
  rotate_left
  · simp only [Act.put, List.setIfInBounds_toArray, List.set_cons_zero, List.set_cons_succ, i64_w, i32_w]
    rfl
  refine pure_ (i := 3) (N := some 89) (v := ?_) (a' := ?_) #[true, true, true, true, false, false, false, false, false, false, false, false, false] rfl rfl (by kernel_rfl) (dec_hQ 89 _ (by decide) (by decide) (by decide)) (Or.inl ⟨by rfl, ?_⟩) ?_ ?_
  rotate_left
  · intro w'
    go_simp
    with_reducible rfl
  rotate_left
  · simp only [Act.put, List.setIfInBounds_toArray, List.set_cons_zero, List.set_cons_succ, i64_w, i32_w]
    rfl
  refine pure_ (i := 4) (N := some 90) (v := ?_) (a' := ?_) #[true, true, true, true, true, false, false, false, false, false, false, false, false] rfl rfl (by kernel_rfl) (dec_hQ 90 _ (by decide) (by decide) (by decide)) (Or.inl ⟨by rfl, ?_⟩) ?_ ?_
  rotate_left
  · intro w'
    go_simp
    with_reducible rfl
  rotate_left
  · simp only [Act.put, List.setIfInBounds_toArray, List.set_cons_zero, List.set_cons_succ, i64_w, i32_w]
    rfl
  refine pure_ (i := 5) (N := some 91) (v := ?_) (a' := ?_) #[true, true, true, true, true, true, false, false, false, false, false, false, false] rfl rfl (by kernel_rfl) (dec_hQ 91 _ (by decide) (by decide) (by decide)) (Or.inl ⟨by rfl, ?_⟩) ?_ ?_
  rotate_left
  · intro w'
    go_simp
    with_reducible rfl
  rotate_left
  · simp only [Act.put, List.setIfInBounds_toArray, List.set_cons_zero, List.set_cons_succ, i64_w, i32_w]
    rfl
  refine pure_ (i := 6) (N := some 92) (v := ?_) (a' := ?_) #[true, true, true, true, true, true, true, false, false, false, false, false, false] rfl rfl (by kernel_rfl) (dec_hQ 92 _ (by decide) (by decide) (by decide)) (Or.inl ⟨by rfl, ?_⟩) ?_ ?_
  rotate_left
  · intro w'
    go_simp
    with_reducible rfl
  rotate_left
  · simp only [Act.put, List.setIfInBounds_toArray, List.set_cons_zero, List.set_cons_succ, i64_w, i32_w]
    rfl
  refine take_ (i := 7) (N := some 93) (v := ?_) (a' := ?_) #[true, true, true, true, true, true, true, true, false, false, false, false, false] rfl rfl (by kernel_rfl) (dec_hQ 93 _ (by decide) (by decide) (by decide)) (Or.inl ⟨by rfl, ?_⟩) hS ?_ ?_
  rotate_left
  · intro w' hs
    go_simp
    with_reducible rfl
  rotate_left
  · simp only [Act.put, List.setIfInBounds_toArray, List.set_cons_zero, List.set_cons_succ, i64_w, i32_w]
    rfl
  refine pure_ (i := 8) (N := some 94) (v := ?_) (a' := ?_) #[true, true, true, true, true, true, true, true, true, false, false, false, false] rfl rfl (by kernel_rfl) (dec_hQ 94 _ (by decide) (by decide) (by decide)) (Or.inl ⟨by rfl, ?_⟩) ?_ ?_
  rotate_left
  · intro w'
    go_simp
    with_reducible rfl
  rotate_left
  · simp only [Act.put, List.setIfInBounds_toArray, List.set_cons_zero, List.set_cons_succ, i64_w, i32_w]
    rfl
  have hC7 := Kd.C_below HCC.out.1 HJ.out.2.2.2
  have HC7 := Aside0.mk hC7
  clear hC7
  refine one_ (i := 9) (N := some 95) #[true, true, true, true, true, true, true, true, true, true, false, false, false] rfl rfl (by kernel_rfl) (by decide) (fun K hK => ?_)
  refine goes_ Tryd.func65 (by kernel_rfl) rfl #[.slice AC (segL l0 (a1 + 6) (p3 + n3)).length (c0 - (a1 + 6).toNat)] (by rfl) rfl rfl (by (try simp only [List.map_toArray, List.map_cons, List.map_nil]); first | done | rfl) ?_
  refine (wire_Crc.calls _ _ _ _ _ _ (Kd.C_drew (HCCr.out _ HC7.out)) HlC.out HCrc.out).mono ?_
  rintro e w8 ⟨rfl, ⟨nd, rfl⟩⟩
  refine ⟨_, rfl, ?_⟩
  refine hK.out _ _ hS (fun hS => ?_)
  refine norm_ (a' := ?_) ?_ ?_
  rotate_left
  · show Act.put _ (some 95) _ = _
    simp only [Act.put, List.setIfInBounds_toArray, List.set_cons_zero, List.set_cons_succ, i64_w, i32_w]
    rfl
  refine one_ (i := 10) (N := some 96) #[true, true, true, true, true, true, true, true, true, true, true, false, false] rfl rfl (by kernel_rfl) (by decide) (fun K hK => ?_)
  refine goes_ Tryd.func64 (by kernel_rfl) rfl #[.int .u32 (crcV (segL l0 (a1 + 6) (p3 + n3)))] (by rfl) rfl rfl (by (try simp only [List.map_toArray, List.map_cons, List.map_nil]); first | done | rfl) ?_
  refine (wire_Four.calls _ (fourL (crcV (segL l0 (a1 + 6) (p3 + n3)))) _ rfl).mono ?_
  rintro e w9 ⟨v9, rfl, ho9, hb9⟩
  obtain ⟨A9, c9, rfl⟩ := Kd.R_slice ho9
  have hm9 := Mu.of_below hb9 (fun _ => False)
  have g0 := hm9.heap (show (W7.drew.drewN nd).heap[w.heap.size]? = _ from HJ.out.1) (fun h => h)
  have g1 := hm9.heap (show (W7.drew.drewN nd).heap[w.heap.size + 1]? = _ from HJ.out.2.1) (fun h => h)
  have g2 := hm9.heap (show (W7.drew.drewN nd).heap[w.heap.size + 1 + 1]? = _ from HJ.out.2.2.1) (fun h => h)
  have HL := Aside0.mk (And.intro g0 (And.intro g1 (And.intro g2 (below_step (pw_below_drewN (below_drew1 HJ.out.2.2.2) nd) hb9))))
  have HC9 := Aside0.mk (Kd.C_below (Kd.C_drewN (Kd.C_drew HC7.out) nd) hb9)
  have HR9 := Aside0.mk (Kd.R_reads' ho9)
  have HB9 := Aside0.mk (Kd.R_below (Kd.R_drewN (Kd.R_drew HB7.out) nd) hb9)
  clear hm9 g0 g1 g2 ho9 HC7 HB7 HJ
  refine ⟨_, rfl, ?_⟩
  refine hK.out _ _ (blk_cell HL.out.2.1 0) (fun hS => ?_)
  clear hb9
  refine norm_ (a' := ?_) ?_ ?_
  rotate_left
  · show Act.put _ (some 96) _ = _
    simp only [Act.put, List.setIfInBounds_toArray, List.set_cons_zero, List.set_cons_succ, i64_w, i32_w]
    rfl
  refine one_ (i := 11) (N := some 97) #[true, true, true, true, true, true, true, true, true, true, true, true, false] rfl rfl (by kernel_rfl) (by decide) (fun K hK => ?_)
  refine goes_ Tryd.func78 (by kernel_rfl) rfl #[.slice AS (segL l0 (a1 + 2) (a1 + 6)).length (c0 - (a1 + 2).toNat), .slice A9 (fourL (crcV (segL l0 (a1 + 6) (p3 + n3)))).length c9] (by rfl) rfl rfl (by (try simp only [List.map_toArray, List.map_cons, List.map_nil]); first | done | rfl) ?_
  refine (bytes_Equal.calls _ _ _ _ _ _ _ _ (HCS.out _ HC9.out) HlS.out HR9.out.2.2 HR9.out.2.1 (congrArg some HEq.out)).mono ?_
  rintro e w10 ⟨rfl, ⟨nd2, rfl⟩⟩
  refine ⟨_, rfl, ?_⟩
  refine hK.out _ _ hS (fun hS => ?_)
  refine norm_ (a' := ?_) ?_ ?_
  rotate_left
  · show Act.put _ (some 97) _ = _
    simp only [Act.put, List.setIfInBounds_toArray, List.set_cons_zero, List.set_cons_succ, i64_w, i32_w]
    rfl
  by_cases q9 : (segL l0 (a1 + 2) (a1 + 6)) = fourL (crcV (segL l0 (a1 + 6) (p3 + n3)))
  case neg =>
    have hr : R = .error 9 := HR8.out.symm.trans (if_neg q9)
    subst hr
    clear HR8
    refine last_ (i := 12) (N := some 98) #[true, true, true, true, true, true, true, true, true, true, true, true, true] rfl rfl (by kernel_rfl) (by decide) (fun K hK => ?_)
    refine goesP_ Tryd.func98 (by kernel_rfl) rfl #[.bool (decide ((segL l0 (a1 + 2) (a1 + 6)) = fourL (crcV (segL l0 (a1 + 6) (p3 + n3))))), .int .i64 9] (by rfl) rfl rfl (by (try simp only [List.map_toArray, List.map_cons, List.map_nil]); first | done | rfl) ?_
    refine (asks_no (decide_eq_false q9)).mono ?_
    rintro en w11 ⟨rfl, rfl⟩
    exact ⟨_, rfl, leave_stop rfl rfl rfl rfl (pw_below_drewN HL.out.2.2.2 nd2) HL.out.1 HL.out.2.1 HL.out.2.2.1⟩
  have HR9' := Aside0.mk ((if_pos q9).symm.trans HR8.out)
  clear HR8
  refine last_ (i := 12) (N := some 98) #[true, true, true, true, true, true, true, true, true, true, true, true, true] rfl rfl (by kernel_rfl) (by decide) (fun K hK => ?_)
  refine goes_ Tryd.func98 (by kernel_rfl) rfl #[.bool (decide ((segL l0 (a1 + 2) (a1 + 6)) = fourL (crcV (segL l0 (a1 + 6) (p3 + n3))))), .int .i64 9] (by rfl) rfl rfl (by (try simp only [List.map_toArray, List.map_cons, List.map_nil]); first | done | rfl) ?_
  refine (asks_ok (decide_eq_true q9)).mono ?_
  rintro en w11 ⟨rfl, rfl⟩
  refine ⟨_, rfl, ?_⟩
  refine hK.out _ _ ?_
  refine norm_ (a' := ?_) ?_ ?_
  rotate_left
  · show Act.put _ (some 98) _ = _
    simp only [Act.put, List.setIfInBounds_toArray, List.set_cons_zero, List.set_cons_succ, i64_w, i32_w]
    rfl
  refine done_ (by kernel_rfl) ?_
  clear q9 hS hcutS hcutC HCS HCCr HlS HlC HEq HCrc HC9 HR9
  have hsl : (((segL l0 p3 (p3 + n3)).length : Nat) : Int) = n3 := by have := GV1.out; have := GV2.out; have := GV3.out; have := Q8.out; unfold segL; rw [List.length_drop, List.length_take]; omega
  have HM := Aside0.mk (show ((w9.drewN nd2).heap[w.heap.size]? = _ ∧ (w9.drewN nd2).heap[w.heap.size + 1]? = _ ∧ (w9.drewN nd2).heap[w.heap.size + 1 + 1]? = _ ∧ Below w.heap.size w (w9.drewN nd2) ∧ Kd.R _ _ (w9.drewN nd2) _ _ _ _) from ⟨HL.out.1, HL.out.2.1, HL.out.2.2.1, pw_below_drewN HL.out.2.2.2 nd2, Kd.R_drewN HB9.out nd2⟩)
  clear HL HB9
  generalize w9.drewN nd2 = W9 at *
  have HMay := Aside0.mk (rec_May.calls K1 n1 n2 A6 c6 (segL l0 p3 (p3 + n3)) _ W9 (Kd.R_reads' HM.out.2.2.2.2).2.2 (Kd.R_reads' HM.out.2.2.2.2).2.1 (may_f K1 n1 n2 (segL l0 p3 (p3 + n3))))
  rw [hsl] at HMay
  go_wp2_with ((with_reducible refine gate_ (.load 88 (.tmp 4)) rfl ?_); refine wpList_loadR rfl _ _ rfl (by rfl) (rec_load HM.out.1) ?_)
  refine HMay.out.mono ?_
  rintro e w12 ⟨rfl, hb12⟩
  have hm12 := Mu.of_below hb12 (fun _ => False)
  have HN := Aside0.mk (And.intro (hm12.heap HM.out.1 (fun h => h)) (And.intro (hm12.heap HM.out.2.1 (fun h => h)) (And.intro (hm12.heap HM.out.2.2.1 (fun h => h)) (And.intro (below_step HM.out.2.2.2.1 hb12) (Kd.R_below HM.out.2.2.2.2 hb12)))))
  clear hm12 hb12 HMay HM
  go_wp2_with fail
  by_cases q10 : mayL K1 n1 n2 n3
  case neg =>
    have hr : R = .error 2 := HR9'.out.symm.trans (if_neg q10)
    subst hr
    clear HR9'
    refine (asks_no (decide_eq_false q10)).mono ?_
    rintro en w13 ⟨rfl, rfl⟩
    exact leave_stop rfl rfl rfl rfl HN.out.2.2.2.1 HN.out.1 HN.out.2.1 HN.out.2.2.1
  have hr : R = .ok (K1, n1, n2, (segL l0 p3 (p3 + n3)), p3 + n3) := HR9'.out.symm.trans (if_pos q10)
  subst hr
  clear HR9'
  refine (asks_ok (decide_eq_true q10)).mono ?_
  rintro en w13 ⟨rfl, rfl⟩
  clear q10
  go_upto_region 17 with fail
  obtain ⟨W13, hst, G0, m13⟩ := rec_store K1 n1 n2 A6 (segL l0 p3 (p3 + n3)).length c6 (show w12.drew.heap[w.heap.size]? = _ from HN.out.1)
  have G1 := m13.heap (show w12.drew.heap[w.heap.size + 1]? = _ from HN.out.2.1) (by omega)
  have G2 := m13.heap (show w12.drew.heap[w.heap.size + 1 + 1]? = _ from HN.out.2.2.1) (by omega)
  refine start_ (n := 5) (S := fun W => W.cell? ⟨w.heap.size + 1, 0, none⟩ = some (.int .i64 (p3 + n3))) (ds := [3, 4]) #[false, false, false, false, false] (by kernel_rfl) rfl rfl (blk_cell HN.out.2.1 0) (fun hS => ?_)
  refine take_ (i := 1) (N := some 103) (v := ?_) (a' := ?_) #[false, true, false, false, false] rfl rfl (by kernel_rfl) (dec_hQ 103 _ (by decide) (by decide) (by decide)) (Or.inl ⟨by rfl, ?_⟩) hS ?_ ?_
  rotate_left
  · intro w' hs
    go_simp
    with_reducible rfl
  rotate_left
  · simp only [Act.put, List.setIfInBounds_toArray, List.set_cons_zero, List.set_cons_succ, i64_w, i32_w]
    rfl
  refine one_ (i := 0) (N := some 102) #[true, true, false, false, false] rfl rfl (by kernel_rfl) (by decide) (fun K hK => ?_)
  refine value_ (by rfl) rfl (exec_load rfl (by rfl) (rec_load (show w12.drew.heap[w.heap.size]? = _ from HN.out.1))) ?_
  refine hK.out _ _ hS (fun hS => ?_)
  refine norm_ (a' := ?_) ?_ ?_
  rotate_left
  · show Act.put _ (some 102) _ = _
    simp only [Act.put, List.setIfInBounds_toArray, List.set_cons_zero, List.set_cons_succ, i64_w, i32_w]
    rfl
  refine one_ (i := 2) (N := none) #[true, true, true, false, false] rfl rfl (by kernel_rfl) (by decide) (fun K hK => ?_)
  refine skip_ (by rfl) rfl (exec_store rfl (by rfl) (by rfl) hst) ?_
  refine hK.out _ _ (blk_cell G1 0) (fun hS => ?_)
  refine last_ (i := 3) (N := none) #[true, true, true, true, false] rfl rfl (by kernel_rfl) (by decide) (fun K hK => ?_)
  refine skip_ (by rfl) rfl (exec_store rfl (by rfl) (by rfl) (st_end G1)) ?_
  refine hK.out _ _ ?_
  have g2 := (Below.heap_setCell W13 ⟨w.heap.size + 1, 0, none⟩ (.int .i64 (p3 + n3)) (w.heap.size + 1 + 1) (by show w.heap.size + 1 + 1 ≠ w.heap.size + 1; omega)).trans G2
  refine last_ (i := 4) (N := none) #[true, true, true, true, true] rfl rfl (by kernel_rfl) (by decide) (fun K hK => ?_)
  refine skip_ (by rfl) rfl (exec_store rfl (by rfl) (by rfl) (st_err g2)) ?_
  refine hK.out _ _ ?_
  refine done_ (by kernel_rfl) ?_
  have j0 := (Below.heap_setCell (W13.setCell ⟨w.heap.size + 1, 0, none⟩ (.int .i64 (p3 + n3))) ⟨w.heap.size + 1 + 1, 0, none⟩ (.int .i64 0) w.heap.size (by show w.heap.size ≠ w.heap.size + 1 + 1; omega)).trans ((Below.heap_setCell W13 ⟨w.heap.size + 1, 0, none⟩ (.int .i64 (p3 + n3)) w.heap.size (by show w.heap.size ≠ w.heap.size + 1; omega)).trans G0)
  have j1 := (Below.heap_setCell (W13.setCell ⟨w.heap.size + 1, 0, none⟩ (.int .i64 (p3 + n3))) ⟨w.heap.size + 1 + 1, 0, none⟩ (.int .i64 0) (w.heap.size + 1) (by show w.heap.size + 1 ≠ w.heap.size + 1 + 1; omega)).trans (set_0 (x := .int .i64 (p3 + n3)) G1)
  have j2 := set_0 (x := .int .i64 0) g2
  have mF : Mu (fun k => w.heap.size ≤ k ∧ k ≤ w.heap.size + 1 + 1) w12.drew ((W13.setCell ⟨w.heap.size + 1, 0, none⟩ (.int .i64 (p3 + n3))).setCell ⟨w.heap.size + 1 + 1, 0, none⟩ (.int .i64 0)) :=
    ((m13.mono (fun k _ h => by have h : k = w.heap.size := h; omega)).setCell (p := ⟨w.heap.size + 1, 0, none⟩) (fun _ => by show w.heap.size ≤ w.heap.size + 1 ∧ w.heap.size + 1 ≤ w.heap.size + 1 + 1; omega) _).setCell (p := ⟨w.heap.size + 1 + 1, 0, none⟩) (fun _ => by show w.heap.size ≤ w.heap.size + 1 + 1 ∧ w.heap.size + 1 + 1 ≤ w.heap.size + 1 + 1; omega) _
  have HZ := Aside0.mk (And.intro j0 (And.intro j1 (And.intro j2 mF)))
  clear j0 j1 j2 mF g2 G0 G1 G2 m13 hS hst
  generalize ((W13.setCell ⟨w.heap.size + 1, 0, none⟩ (.int .i64 (p3 + n3))).setCell ⟨w.heap.size + 1 + 1, 0, none⟩ (.int .i64 0)) = W14 at *
  go_wp2
  refine leaves_cons (f := 96) (args := #[.pointer (some ⟨w.heap.size, 0, none⟩), .pointer (some ⟨w.heap.size + 1, 0, none⟩), .pointer (some ⟨w.heap.size + 1 + 1, 0, none⟩)]) (by simp) (by simp [go_sem]) ?_
  refine dec_idle.mono ?_
  rintro en u w15 ⟨rfl, rfl, rfl⟩
  refine ⟨_, dec_results rfl rfl rfl HZ.out.1 HZ.out.2.1 HZ.out.2.2.1, _, rfl, ?_, ?_⟩
  · have h1_ := Kd.R_bound (Kd.R_drew HN.out.2.2.2.2)
    exact Kd.R_lower (Kd.R_mono (Kd.R_move h1_ (fun k hk => HZ.out.2.2.2.block k hk.2.2.1 (by have := hk.2.1; have := H5.out.1; omega))) (fun _ _ => trivial)) H5.out.2
  · exact Mu.below_of (below_drew1 HN.out.2.2.2.1) HZ.out.2.2.2 (by intro i hi; omega)
end Go.Proofs.YtlgfmmkabnbllaaDoor.Hand
namespace Go.Proofs.YtlgfmmkabnbllaaDoor.Hand
open Go.RowKit Go.Proofs.YtlgfmmkabnbllaaDoorW.PrintWords Go.Proofs.YtlgfmmkabnbllaaDoorW.PrintLast Go.Proofs.YtlgfmmkabnbllaaDoor.PA
set_option maxRecDepth 100000 in
set_option maxHeartbeats 4000000 in
theorem dec_early {A0 : Option Addr} {c0 : Nat} {l0 : List Int} {a1 : Int} {w : World} (h : a1 < 0 ∨ (l0.length : Int) < a1) :
    Calls Tryd.prog 70 #[.slice A0 l0.length c0, .int .i64 a1] w (DecPost w (0, 0, 0, [], 0, 1)) := by
  obtain ⟨W, hW, b0, b1, b2, hWs, hWb⟩ := three_new w (recO 0 0 0 (.slice none 0 0)) (.cells #[.int .i64 0] 3 (0, 0)) (.cells #[.int .i64 0] 32 (0, 0))
  obtain ⟨W1, hst, g0, m0⟩ := rec_store 0 0 0 none 0 0 b0
  have g1 := m0.heap b1 (by omega)
  have g2 := m0.heap b2 (by omega)
  have k2 := (Below.heap_setCell W1 ⟨w.heap.size + 1, 0, none⟩ (.int .i64 0) (w.heap.size + 1 + 1) (by show w.heap.size + 1 + 1 ≠ w.heap.size + 1; omega)).trans g2
  have j0 := (Below.heap_setCell (W1.setCell ⟨w.heap.size + 1, 0, none⟩ (.int .i64 0)) ⟨w.heap.size + 1 + 1, 0, none⟩ (.int .i64 1) w.heap.size (by show w.heap.size ≠ w.heap.size + 1 + 1; omega)).trans ((Below.heap_setCell W1 ⟨w.heap.size + 1, 0, none⟩ (.int .i64 0) w.heap.size (by show w.heap.size ≠ w.heap.size + 1; omega)).trans g0)
  have j1 := (Below.heap_setCell (W1.setCell ⟨w.heap.size + 1, 0, none⟩ (.int .i64 0)) ⟨w.heap.size + 1 + 1, 0, none⟩ (.int .i64 1) (w.heap.size + 1) (by show w.heap.size + 1 ≠ w.heap.size + 1 + 1; omega)).trans (set_0 (x := .int .i64 0) g1)
  have j2 := set_0 (x := .int .i64 1) k2
  have mF : Mu (fun k => w.heap.size ≤ k) W ((W1.setCell ⟨w.heap.size + 1, 0, none⟩ (.int .i64 0)).setCell ⟨w.heap.size + 1 + 1, 0, none⟩ (.int .i64 1)) :=
    ((m0.mono (fun k _ h => by have h : k = w.heap.size := h; omega)).setCell (p := ⟨w.heap.size + 1, 0, none⟩) (fun _ => by show w.heap.size ≤ w.heap.size + 1; omega) _).setCell (p := ⟨w.heap.size + 1 + 1, 0, none⟩) (fun _ => by show w.heap.size ≤ w.heap.size + 1 + 1; omega) _
  have HE := Aside0.mk (And.intro j0 (And.intro j1 (And.intro j2 (Mu.below_of hWb mF (by intro i hi; omega)))))
  have HW := Aside0.mk hW
  have d1 := blk_cell g1 0
  have y1 := blk_frozen g1 0
  have d2 := blk_cell g2 0
  have y2 := blk_frozen g2 0
  have hbd := rec_build
  have hmf : ∀ (fn : Fn) (first cap : Array Value) (w : World), (Instr.makeFunc fn first cap).run Tryd.prog w = .ok (.func fn first cap) w := fun _ _ _ _ => rfl
  clear hW b0 b1 b2 hWs hWb g0 g1 g2 m0 k2 j0 j1 j2 mF
  by_cases h1 : a1 < 0
  · have e1 : decide (a1 < 0) = true := decide_eq_true h1
    go_enter_defers Tryd.func70, Tryd.ntmps70
    go_wp2_with (first | ((with_reducible refine gate_ (.store 88 (.tmp 4) (.tmp 17)) rfl ?_); rw [HW.out]; refine wpList_storeR rfl _ _ _ rfl (by rfl) (by rfl) hst ?_))
    refine ⟨_, dec_results rfl rfl rfl HE.out.1 HE.out.2.1 HE.out.2.2.1, _, rfl, Kd.R_nil _ _ _ _ _, HE.out.2.2.2⟩
  · have e1 : decide (a1 < 0) = false := decide_eq_false h1
    have e2 : decide ((l0.length : Int) < a1) = true := decide_eq_true (h.resolve_left h1)
    go_enter_defers Tryd.func70, Tryd.ntmps70
    go_wp2_with (first | ((with_reducible refine gate_ (.store 88 (.tmp 4) (.tmp 17)) rfl ?_); rw [HW.out]; refine wpList_storeR rfl _ _ _ rfl (by rfl) (by rfl) hst ?_))
    refine ⟨_, dec_results rfl rfl rfl HE.out.1 HE.out.2.1 HE.out.2.2.1, _, rfl, Kd.R_nil _ _ _ _ _, HE.out.2.2.2⟩
theorem rec_Decode.calls (A0 : Option Addr) (c0 : Nat) (l0 : List Int) (a1 : Int) (r1 r2 r3 : Int) (r4 : List Int) (r5 r6 : Int) (w : World) (hr0 : Kd.C (Kd.int .u8) w A0 l0.length l0) (hc0 : l0.length ≤ c0) (h : rec_Decode.f l0 a1 = some (r1, r2, r3, r4, r5, r6)) :
    Calls Tryd.prog 70 #[.slice A0 l0.length c0, .int .i64 a1] w fun e w' => ∃ v3_ : Value, e = .returned (.tuple #[.agg #[.int .i64 r1, .int .u64 r2, .int .u64 r3, v3_], .int .i64 r5, .int .i64 r6]) ∧ Kd.R (Kd.int .u8) 5 w' w.heap.size (fun _ => True) v3_ r4 ∧ Below w.heap.size w w' := by
  unfold rec_Decode.f at h
  split at h
  case isFalse => cases h
  rename_i hq
  have hv := Option.some.inj h
  by_cases he : a1 < 0 ∨ (l0.length : Int) < a1
  · rw [if_pos he] at hv
    have := dec_early (A0 := A0) (c0 := c0) (w := w) he
    rw [hv] at this
    exact this
  · rw [if_neg he] at hv
    have hb : Bytes255 l0 := fun x hx => byteB_iff.1 (List.all_eq_true.1 hq.1 x hx)
    have := dec_main (R := decV l0 a1) hr0 hc0 hb hq.2 (by omega) (by omega) rfl
    rw [hv] at this
    exact this
end Go.Proofs.YtlgfmmkabnbllaaDoor.Hand
namespace Go.Proofs.YtlgfmmkabnbllaaDoor.Hand
open Go.RowKit Go.Proofs.YtlgfmmkabnbllaaDoorW.PrintWords Go.Proofs.YtlgfmmkabnbllaaDoorW.PrintLast Go.Proofs.YtlgfmmkabnbllaaDoorW.PrintMore Go.Proofs.YtlgfmmkabnbllaaDoor.PA
theorem rd_at (P : List Int) (c : Int) (S : List Int) : rd (P ++ c :: S) (P.length : Int) = c := by
  unfold rd
  simp
theorem varL_front : ∀ (d : Nat) (a : Int), 0 ≤ a → a < 128 * 128 ^ d → ∃ F c, varL d a = F ++ [c] ∧ (∀ x ∈ F, 128 ≤ x ∧ x < 256) ∧ 0 ≤ c ∧ c < 128 ∧ F.length ≤ d
  | 0, a, h0, h1 => ⟨[], a % 256, rfl, by simp, by omega, by omega, by simp⟩
  | d + 1, a, h0, h1 => by
    by_cases q : a ≥ 128
    · obtain ⟨F, c, e, hF, c0, c1, hl⟩ := varL_front d (a / 128) (by omega) (by rw [Int.pow_succ] at h1; omega)
      refine ⟨(a % 128 + 128) :: F, c, ?_, ?_, c0, c1, by simp; omega⟩
      · show varL (d + 1) a = _
        rw [varL, if_pos q, e]; rfl
      · intro x hx
        rcases List.mem_cons.1 hx with rfl | hx
        · omega
        · exact hF x hx
    · exact ⟨[], a % 256, by rw [varL, if_neg q]; rfl, by simp, by omega, by omega, by simp⟩
theorem pow_le (i : Nat) (hi : i ≤ 9) : (1 : Int) ≤ 2 ^ (7 * i) := by
  have : i = 0 ∨ i = 1 ∨ i = 2 ∨ i = 3 ∨ i = 4 ∨ i = 5 ∨ i = 6 ∨ i = 7 ∨ i = 8 ∨ i = 9 := by omega
  rcases this with rfl | rfl | rfl | rfl | rfl | rfl | rfl | rfl | rfl | rfl <;> simp
theorem read_back : ∀ (d i : Nat) (a n : Int) (P S : List Int), i + d = 9 → 0 ≤ a → a < 128 * 128 ^ d → 0 ≤ n → n < 2 ^ (7 * i) → n + a * 2 ^ (7 * i) < 18446744073709551616 → (0 < i → 1 ≤ a) →
    numL (P ++ (varL d a ++ S)) (d + 1) i n (P.length : Int) = .ok (n + a * 2 ^ (7 * i), (P.length : Int) + ((varL d a).length : Int)) := by
  intro d
  induction d with
  | zero =>
    intro i a n P S hi h0 h1 hn0 hn hb hp
    obtain rfl : i = 9 := by omega
    have ha : a < 2 := by simp only [Nat.reduceMul, Int.reducePow] at hb hn; omega
    have e : a % 256 = a := by omega
    have hr := rd_at P (a % 256) S
    rw [e] at hr
    show numL (P ++ a % 256 :: S) 1 9 n _ = _
    rw [e, numL_succ _ 0 9 n _ a hr, if_neg (by simp; omega), if_neg (by omega), if_pos (by omega), vstep_eq n a 9 hn0 hn h0 (by omega) (by omega) (by omega)]
    rw [show a % 128 = a by omega]; rfl
  | succ d ih =>
    intro i a n P S hi h0 h1 hn0 hn hb hp
    have h2 : 1 ≤ (2 : Int) ^ (7 * i) := pow_le i (by omega)
    have e2 : (2 : Int) ^ (7 * (i + 1)) = 2 ^ (7 * i) * 128 := by rw [show 7 * (i + 1) = 7 * i + 7 by omega, Int.pow_add]; rfl
    by_cases q : a ≥ 128
    · have e1 : varL (d + 1) a = (a % 128 + 128) :: varL d (a / 128) := if_pos q
      have hr := rd_at P (a % 128 + 128) (varL d (a / 128) ++ S)
      have hv := vstep_eq n (a % 128 + 128) i hn0 hn (by omega) (by omega) (by omega) (by omega)
      rw [show (a % 128 + 128) % 128 = a % 128 by omega] at hv
      have hih := ih (i + 1) (a / 128) (n + a % 128 * 2 ^ (7 * i)) (P ++ [a % 128 + 128]) S (by omega) (by omega) (by rw [Int.pow_succ] at h1; omega)
      rw [e2] at hih
      have d1 : n + a % 128 * 2 ^ (7 * i) + a / 128 * (2 ^ (7 * i) * 128) = n + a * 2 ^ (7 * i) := by
        have : a * 2 ^ (7 * i) = (a % 128 + 128 * (a / 128)) * 2 ^ (7 * i) := by rw [Int.emod_add_mul_ediv]
        rw [this, Int.add_mul]
        have : a / 128 * (2 ^ (7 * i) * 128) = 128 * (a / 128) * 2 ^ (7 * i) := by ac_rfl
        rw [this]; omega
      have d2 : 0 ≤ a % 128 * 2 ^ (7 * i) := Int.mul_nonneg (by omega) (by omega)
      have d3 : a % 128 * 2 ^ (7 * i) ≤ 127 * 2 ^ (7 * i) := Int.mul_le_mul_of_nonneg_right (by omega) (by omega)
      rw [d1] at hih
      have hih := hih (by omega) (by omega) hb (by omega)
      have t1 : ¬ ((P.length : Int) = ((P ++ (varL (d + 1) a ++ S)).length : Int)) := by rw [e1]; simp; omega
      rw [e1] at t1 ⊢
      show numL (P ++ (a % 128 + 128) :: (varL d (a / 128) ++ S)) (d + 1 + 1) i n _ = _
      rw [numL_succ _ (d + 1) i n _ _ hr]
      refine (if_neg t1).trans ((if_neg (by omega)).trans ((if_neg (by omega)).trans ?_))
      rw [hv]
      have e3 : P ++ (a % 128 + 128) :: (varL d (a / 128) ++ S) = (P ++ [a % 128 + 128]) ++ (varL d (a / 128) ++ S) := by simp
      have e4 : (P.length : Int) + 1 = ((P ++ [a % 128 + 128]).length : Int) := by simp
      rw [e3, e4, hih, ← e4]
      simp only [List.length_cons]
      congr 2
      omega
    · have e1 : varL (d + 1) a = [a % 256] := if_neg q
      have e : a % 256 = a := by omega
      have hr := rd_at P a S
      rw [e1, e]
      show numL (P ++ a :: S) (d + 1 + 1) i n _ = _
      rw [numL_succ _ (d + 1) i n _ a hr]
      have t1 : ¬ ((P.length : Int) = ((P ++ a :: S).length : Int)) := by simp; omega
      refine (if_neg t1).trans ((if_neg (by omega)).trans ((if_pos (by omega)).trans ?_))
      rw [vstep_eq n a i hn0 hn h0 (by omega) (by omega) (by omega), show a % 128 = a by omega]; rfl
theorem getV_in (l : List Int) (P : Nat) (h : P ≤ l.length) : getV l (P : Int) = numOut (numL l 10 0 0 (P : Int)) := by
  unfold getV
  rw [if_neg (by omega), if_neg (by omega)]
end Go.Proofs.YtlgfmmkabnbllaaDoor.Hand
namespace Go.Proofs.YtlgfmmkabnbllaaDoor.Hand
open Go.RowKit Go.Proofs.YtlgfmmkabnbllaaDoorW.PrintWords Go.Proofs.YtlgfmmkabnbllaaDoorW.PrintLast Go.Proofs.YtlgfmmkabnbllaaDoorW.PrintMore Go.Proofs.YtlgfmmkabnbllaaDoor.PA
theorem seg_len {l : List Int} {i j : Int} (h0 : 0 ≤ i) (h1 : i ≤ j) (h2 : j ≤ l.length) : ((segL l i j).length : Int) = j - i := by
  unfold segL
  rw [List.length_drop, List.length_take]
  omega
theorem seg_app {l : List Int} {i j k : Int} (h0 : 0 ≤ i) (h1 : i ≤ j) (h2 : j ≤ k) (h3 : k ≤ l.length) : segL l i k = segL l i j ++ segL l j k := by
  unfold segL
  have e : (l.take k.toNat) = l.take j.toNat ++ (l.take k.toNat).drop j.toNat := by
    have := (List.take_append_drop j.toNat (l.take k.toNat)).symm
    rwa [List.take_take, Nat.min_eq_left (by omega)] at this
  conv => lhs; rw [e]
  rw [List.drop_append, show i.toNat - (l.take j.toNat).length = 0 by rw [List.length_take]; omega, List.drop_zero]
theorem seg_one {l : List Int} {i : Int} (h0 : 0 ≤ i) (h1 : i < l.length) : segL l i (i + 1) = [rd l i] := by
  unfold segL rd
  have e : (i + 1).toNat = i.toNat + 1 := by omega
  have h : i.toNat < l.length := by omega
  rw [e, List.take_add_one, List.drop_append, List.length_take, List.getElem?_eq_getElem h, List.drop_of_length_le (by rw [List.length_take]; omega)]
  rw [Nat.min_eq_left (by omega), Nat.sub_self, List.drop_zero, List.nil_append, List.getD_eq_getElem?_getD, List.getElem?_eq_getElem h]
  rfl
theorem seg_cons {l : List Int} {i j : Int} (h0 : 0 ≤ i) (h1 : i < j) (h2 : j ≤ l.length) : segL l i j = rd l i :: segL l (i + 1) j := by
  rw [seg_app h0 (show i ≤ i + 1 by omega) (show i + 1 ≤ j by omega) h2, seg_one h0 (by omega)]; rfl
theorem seg_mid (P M S : List Int) : segL (P ++ (M ++ S)) (P.length : Int) ((P.length : Int) + (M.length : Int)) = M := by
  unfold segL
  rw [show ((P.length : Int) + (M.length : Int)).toNat = P.length + M.length by omega, Int.toNat_natCast, ← List.append_assoc, List.take_append_of_le_length (by simp), List.take_of_length_le (by simp), List.drop_append, List.drop_of_length_le (Nat.le_refl _), Nat.sub_self, List.drop_zero, List.nil_append]
theorem get_back (P : List Int) (a : Int) (S : List Int) (h0 : 0 ≤ a) (h1 : a < 18446744073709551616) : getV (P ++ (varL 9 a ++ S)) (P.length : Int) = (a, (P.length : Int) + ((varL 9 a).length : Int), 0) := by
  have rb := read_back 9 0 a 0 P S rfl h0 (by simp only [Int.reducePow, Int.reduceMul]; omega) (by omega) (by simp) (by simpa using h1) (by omega)
  simp only [Nat.mul_zero, Int.pow_zero, Int.mul_one, Int.zero_add] at rb
  rw [getV_in _ P.length (by simp), rb]; rfl
theorem varL_bytes (a : Int) (h0 : 0 ≤ a) (h1 : a < 18446744073709551616) : Bytes255 (varL 9 a) := by
  obtain ⟨F, c, eV, hF, c0, c1, hl⟩ := varL_front 9 a h0 (by simp only [Int.reducePow, Int.reduceMul]; omega)
  rw [eV]
  intro x hx
  rcases List.mem_append.1 hx with h | h
  · have := hF x h; omega
  · rw [List.mem_singleton.1 h]; omega
theorem varL_len (a : Int) (h0 : 0 ≤ a) (h1 : a < 18446744073709551616) : (varL 9 a).length ≤ 10 := by
  obtain ⟨F, c, eV, hF, c0, c1, hl⟩ := varL_front 9 a h0 (by simp only [Int.reducePow, Int.reduceMul]; omega)
  rw [eV]; simp; omega
theorem varL_small (d : Nat) (a : Int) (h0 : 0 ≤ a) (h1 : a < 128) : varL d a = [a] := by
  cases d with
  | zero => show [a % 256] = [a]; rw [Int.emod_eq_of_lt h0 (by omega)]
  | succ d => rw [varL, if_neg (by omega), Int.emod_eq_of_lt h0 (by omega)]
theorem numL_canon {l : List Int} (hb : Bytes255 l) : ∀ (d i : Nat) (n p m q : Int), i + d = 10 → 0 ≤ n → n < 2 ^ (7 * i) → 0 ≤ p → p ≤ l.length → numL l d i n p = .ok (m, q) →
    ∃ a, 0 ≤ a ∧ (0 < i → 1 ≤ a) ∧ m = n + a * 2 ^ (7 * i) ∧ segL l p q = varL (9 - i) a ∧ p < q ∧ q ≤ l.length := by
  intro d
  induction d with
  | zero => intro i n p m q _ _ _ _ _ h; simp only [numL] at h; cases h
  | succ d ih =>
    intro i n p m q hi h0 hn hp0 hp h
    have hc := rd_255 hb p
    rw [numL_succ l d i n p _ rfl] at h
    split at h
    · cases h
    · rename_i hpl
      split at h
      · cases h
      · rename_i hno
        have hv := vstep_eq n (rd l p) i h0 hn hc.1 hc.2 (by omega) (fun h9 => by
          rcases Int.lt_or_le 1 (rd l p) with h1 | h1
          · exact absurd (.inl ⟨h9, h1⟩) hno
          · exact h1)
        rw [hv] at h
        split at h
        · rename_i hlt
          injection h with h
          injection h with e1 e2
          subst e1 e2
          refine ⟨rd l p, hc.1, fun h => ?_, by rw [Int.emod_eq_of_lt hc.1 hlt], ?_, by omega, by omega⟩
          · rcases Int.lt_or_le 0 (rd l p) with h1 | h1
            · omega
            · exact absurd (.inr ⟨by omega, h⟩) hno
          · rw [seg_one hp0 (by omega), varL_small _ _ hc.1 hlt]
        · rename_i hge
          have hi9 : i ≠ 9 := fun h9 => hno (.inl ⟨h9, by omega⟩)
          have hb2 := vbound n (rd l p % 128) i hn (by omega) (by omega) (by omega) (fun h9 => absurd h9 hi9)
          have e2 : (2 : Int) ^ (7 * (i + 1)) = 2 ^ (7 * i) * 128 := by rw [show 7 * (i + 1) = 7 * i + 7 by omega, Int.pow_add]; rfl
          have h2 : 1 ≤ (2 : Int) ^ (7 * i) := pow_le i (by omega)
          have d3 : rd l p % 128 * 2 ^ (7 * i) ≤ 127 * 2 ^ (7 * i) := Int.mul_le_mul_of_nonneg_right (by omega) (by omega)
          obtain ⟨a, a0, a1, em, es, hpq, hq⟩ := ih (i + 1) _ (p + 1) m q (by omega) (by omega) (by rw [e2]; omega) (by omega) (by omega) h
          have a1 := a1 (by omega)
          refine ⟨rd l p % 128 + 128 * a, by omega, fun _ => by omega, ?_, ?_, by omega, hq⟩
          · rw [em, e2, Int.add_mul, show a * (2 ^ (7 * i) * 128) = 128 * a * 2 ^ (7 * i) by ac_rfl]; omega
          · rw [seg_cons hp0 (by omega) hq, es, show 9 - i = (9 - (i + 1)) + 1 by omega, varL, if_pos (by omega)]
            have q1 : (rd l p % 128 + 128 * a) % 128 + 128 = rd l p := by omega
            have q2 : (rd l p % 128 + 128 * a) / 128 = a := by omega
            rw [q1, q2]
theorem get_canon {l : List Int} (hb : Bytes255 l) {p n q : Int} (h : getV l p = (n, q, 0)) : 0 ≤ p ∧ segL l p q = varL 9 n ∧ 0 ≤ n ∧ n ≤ 18446744073709551615 ∧ p < q ∧ q ≤ l.length := by
  have hk := getV_ok h
  unfold getV at h
  split at h
  · injection h with _ h; injection h with _ h; cases h
  · split at h
    · injection h with _ h; injection h with _ h; cases h
    · cases hn : numL l 10 0 0 p with
      | error x =>
        rw [hn] at h
        injection h with _ h
        injection h with _ h
        subst h
        have := numL_nz l _ _ _ _ _ hn
        cases this
      | ok np =>
        obtain ⟨n', q'⟩ := np
        rw [hn] at h
        injection h with e1 h
        injection h with e2 _
        subst e1 e2
        obtain ⟨a, a0, _, em, es, hpq, hq⟩ := numL_canon hb 10 0 0 p n' q' rfl (by omega) (by simp) (by omega) (by omega) hn
        have : n' = a := by simpa using em
        subst this
        exact ⟨by omega, es, hk.2.1, hk.2.2.1, hpq, hq⟩
end Go.Proofs.YtlgfmmkabnbllaaDoor.Hand
namespace Go.Proofs.YtlgfmmkabnbllaaDoor.Hand
open Go.RowKit Go.Proofs.YtlgfmmkabnbllaaDoorW.PrintWords Go.Proofs.YtlgfmmkabnbllaaDoorW.PrintLast Go.Proofs.YtlgfmmkabnbllaaDoorW.PrintMore Go.Proofs.YtlgfmmkabnbllaaDoor.PA
def bodyL (k s t : Int) (b : List Int) : List Int := k :: (varL 9 s ++ (varL 9 t ++ (varL 9 (b.length : Int) ++ b)))
def headL (k s t : Int) (b : List Int) : List Int := 167 :: 92 :: (fourL (crcV (bodyL k s t b)) ++ [k])
def restL (s t : Int) (b : List Int) : List Int := varL 9 s ++ (varL 9 t ++ (varL 9 (b.length : Int) ++ b))
def encL (k s t : Int) (b : List Int) : List Int := 167 :: 92 :: (fourL (crcV (bodyL k s t b)) ++ bodyL k s t b)
theorem enc_split (k s t : Int) (b : List Int) : encL k s t b = headL k s t b ++ restL s t b := by
  simp [encL, headL, restL, bodyL]
theorem head_len (k s t : Int) (b : List Int) : (headL k s t b).length = 7 := by simp [headL, fourL]
theorem enc_len (k s t : Int) (b : List Int) : (encL k s t b).length = 7 + (restL s t b).length := by rw [enc_split, List.length_append, head_len]
theorem rd_app (P M : List Int) (i : Nat) : rd (P ++ M) ((P.length : Int) + (i : Int)) = rd M (i : Int) := by
  unfold rd
  rw [show ((P.length : Int) + (i : Int)).toNat = P.length + i by omega, Int.toNat_natCast, List.getD_eq_getElem?_getD, List.getD_eq_getElem?_getD, List.getElem?_append_right (by omega), Nat.add_sub_cancel_left]
structure MayR (k s t : Int) (b : List Int) : Prop where
  may : mayL k s t b.length
  s0 : 0 ≤ s
  t0 : 0 ≤ t
theorem MayR.s1 {k s t : Int} {b : List Int} (h : MayR k s t b) : s < 18446744073709551616 := by have := h.may.2.2.1; omega
theorem MayR.t1 {k s t : Int} {b : List Int} (h : MayR k s t b) : t < 18446744073709551616 := by have := h.may.2.2.2.1; omega
theorem MayR.b1 {k s t : Int} {b : List Int} (h : MayR k s t b) : (b.length : Int) ≤ 1048576 := h.may.2.2.2.2
theorem dec_enc (P S : List Int) {k s t : Int} {b : List Int} (h : MayR k s t b) : decV (P ++ (encL k s t b ++ S)) (P.length : Int) = .ok (k, s, t, b, (P.length : Int) + ((encL k s t b).length : Int)) := by
  have hb1 := h.b1
  have g1 := get_back (P ++ headL k s t b) s (varL 9 t ++ (varL 9 (b.length : Int) ++ (b ++ S))) h.s0 h.s1
  have g2 := get_back (P ++ headL k s t b ++ varL 9 s) t (varL 9 (b.length : Int) ++ (b ++ S)) h.t0 h.t1
  have g3 := get_back (P ++ headL k s t b ++ varL 9 s ++ varL 9 t) (b.length : Int) (b ++ S) (by omega) (by omega)
  have e1 : P ++ headL k s t b ++ (varL 9 s ++ (varL 9 t ++ (varL 9 (b.length : Int) ++ (b ++ S)))) = P ++ (encL k s t b ++ S) := by rw [enc_split]; simp [restL]
  have e2 : P ++ headL k s t b ++ varL 9 s ++ (varL 9 t ++ (varL 9 (b.length : Int) ++ (b ++ S))) = P ++ (encL k s t b ++ S) := by rw [enc_split]; simp [restL]
  have e3 : P ++ headL k s t b ++ varL 9 s ++ varL 9 t ++ (varL 9 (b.length : Int) ++ (b ++ S)) = P ++ (encL k s t b ++ S) := by rw [enc_split]; simp [restL]
  have e4 : (P ++ headL k s t b ++ varL 9 s ++ varL 9 t ++ varL 9 (b.length : Int)) ++ (b ++ S) = P ++ (encL k s t b ++ S) := by rw [enc_split]; simp [restL]
  have e5 : (P ++ (167 :: 92 :: [])) ++ (fourL (crcV (bodyL k s t b)) ++ (bodyL k s t b ++ S)) = P ++ (encL k s t b ++ S) := by simp [encL]
  have e6 : (P ++ (167 :: 92 :: fourL (crcV (bodyL k s t b)))) ++ (bodyL k s t b ++ S) = P ++ (encL k s t b ++ S) := by simp [encL]
  have m1 := seg_mid (P ++ (167 :: 92 :: [])) (fourL (crcV (bodyL k s t b))) (bodyL k s t b ++ S)
  have m2 := seg_mid (P ++ (167 :: 92 :: fourL (crcV (bodyL k s t b)))) (bodyL k s t b) S
  have m3 := seg_mid (P ++ headL k s t b ++ varL 9 s ++ varL 9 t ++ varL 9 (b.length : Int)) b S
  rw [e1] at g1
  rw [e2] at g2
  rw [e3] at g3
  rw [e4] at m3
  rw [e5] at m1
  rw [e6] at m2
  have r0 := rd_app P (encL k s t b ++ S) 0
  have r1 := rd_app P (encL k s t b ++ S) 1
  have r6 := rd_app P (encL k s t b ++ S) 6
  have el := enc_len k s t b
  have rl : (restL s t b).length = (varL 9 s).length + ((varL 9 t).length + ((varL 9 (b.length : Int)).length + b.length)) := by simp [restL]
  have bl : (bodyL k s t b).length = (restL s t b).length + 1 := rfl
  have fl : (fourL (crcV (bodyL k s t b))).length = 4 := rfl
  have hl := head_len k s t b
  have v0 : rd (encL k s t b ++ S) ((0 : Nat) : Int) = 167 := rfl
  have v1 : rd (encL k s t b ++ S) ((1 : Nat) : Int) = 92 := rfl
  have v6 : rd (encL k s t b ++ S) ((6 : Nat) : Int) = k := rfl
  have tl : (P ++ (encL k s t b ++ S)).length = P.length + (7 + (restL s t b).length) + S.length := by simp [el]; omega
  rw [v0] at r0
  rw [v1] at r1
  rw [v6] at r6
  generalize P ++ (encL k s t b ++ S) = L at *
  simp only [List.length_append, List.length_cons, List.length_nil, hl, fl] at g1 g2 g3 m1 m2 m3
  have a1 : ((P.length + 7 : Nat) : Int) = (P.length : Int) + 7 := by omega
  generalize (varL 9 s).length = ns at *
  generalize (varL 9 t).length = nt at *
  generalize (varL 9 (b.length : Int)).length = nb at *
  have p1 : ((P.length + 7 : Nat) : Int) + (ns : Int) = ((P.length + 7 + ns : Nat) : Int) := by omega
  have p2 : ((P.length + 7 + ns : Nat) : Int) + (nt : Int) = ((P.length + 7 + ns + nt : Nat) : Int) := by omega
  have p3 : ((P.length + 7 + ns + nt : Nat) : Int) + (nb : Int) = ((P.length + 7 + ns + nt + nb : Nat) : Int) := by omega
  rw [p1] at g1
  rw [p2] at g2
  rw [p3] at g3
  have b2 : (P.length : Int) + 2 = ((P.length + (0 + 1 + 1) : Nat) : Int) := by omega
  have b6 : (P.length : Int) + 6 = ((P.length + (4 + 1 + 1) : Nat) : Int) := by omega
  have b6' : (P.length : Int) + 6 = ((P.length + (0 + 1 + 1) : Nat) : Int) + ((4 : Nat) : Int) := by omega
  have b9 : ((P.length + 7 + ns + nt + nb : Nat) : Int) + (b.length : Int) = ((P.length + (4 + 1 + 1) : Nat) : Int) + ((bodyL k s t b).length : Int) := by omega
  unfold decV
  rw [← a1, g1]
  dsimp only
  rw [g2]
  dsimp only
  rw [g3]
  dsimp only
  have c1 : 6 ≤ (L.length : Int) - (P.length : Int) := by omega
  have c2 : rd L (P.length : Int) = 167 ∧ rd L ((P.length : Int) + 1) = 92 := ⟨by simpa using r0, by simpa using r1⟩
  have c3 : (P.length : Int) + 6 < (L.length : Int) := by omega
  have c4 : (b.length : Int) ≤ (L.length : Int) - ((P.length + 7 + ns + nt + nb : Nat) : Int) := by omega
  have c5 : segL L ((P.length : Int) + 2) ((P.length : Int) + 6) = fourL (crcV (segL L ((P.length : Int) + 6) (((P.length + 7 + ns + nt + nb : Nat) : Int) + (b.length : Int)))) := by
    rw [b2, b6', m1, ← b6', b9, b6, m2]
  have c6 : rd L ((P.length : Int) + 6) = k := r6
  rw [if_pos c1, if_pos c2, if_pos c3, if_pos rfl, if_pos rfl, if_pos rfl, if_pos hb1, if_pos c4, if_pos c5, c6, if_pos h.may, m3]
  exact congrArg (fun z => Except.ok (k, s, t, b, z)) (by omega)
theorem dec_inv {l : List Int} (hb : Bytes255 l) {a k s t e : Int} {b : List Int} (h0 : 0 ≤ a) (h : decV l a = .ok (k, s, t, b, e)) :
    segL l a e = encL k s t b ∧ MayR k s t b ∧ e = a + ((encL k s t b).length : Int) ∧ e ≤ l.length ∧ Bytes255 b := by
  unfold decV at h
  split at h
  case isFalse => cases h
  rename_i c1
  split at h
  case isFalse => cases h
  rename_i c2
  split at h
  case isFalse => cases h
  rename_i c3
  rcases hg1 : getV l (a + 7) with ⟨n1, p1, x1⟩
  rw [hg1] at h
  dsimp only at h
  split at h
  case isFalse => cases h
  rename_i z1
  subst z1
  rcases hg2 : getV l p1 with ⟨n2, p2, x2⟩
  rw [hg2] at h
  dsimp only at h
  split at h
  case isFalse => cases h
  rename_i z2
  subst z2
  rcases hg3 : getV l p2 with ⟨n3, p3, x3⟩
  rw [hg3] at h
  dsimp only at h
  split at h
  case isFalse => cases h
  rename_i z3
  subst z3
  split at h
  case isFalse => cases h
  rename_i c4
  split at h
  case isFalse => cases h
  rename_i c5
  split at h
  case isFalse => cases h
  rename_i c6
  split at h
  case isFalse => cases h
  rename_i c7
  injection h with h
  injection h with ek h
  injection h with es h
  injection h with et h
  injection h with eb ee
  subst es et ee
  obtain ⟨_, s1, n10, n11, q1, r1⟩ := get_canon hb hg1
  obtain ⟨_, s2, n20, n21, q2, r2⟩ := get_canon hb hg2
  obtain ⟨_, s3, n30, n31, q3, r3⟩ := get_canon hb hg3
  have hbl : (b.length : Int) = n3 := by rw [← eb, seg_len (by omega) (by omega) (by omega)]; omega
  have f1 : segL l (a + 6) (p3 + n3) = bodyL k n1 n2 b := by
    rw [seg_cons (by omega) (by omega) (by omega), show a + 6 + 1 = a + 7 by omega, seg_app (i := a + 7) (j := p1) (by omega) (by omega) (by omega) (by omega), seg_app (i := p1) (j := p2) (by omega) (by omega) (by omega) (by omega), seg_app (i := p2) (j := p3) (by omega) (by omega) (by omega) (by omega), s1, s2, s3, eb, ek]
    unfold bodyL
    rw [hbl]
  have f2 : segL l a (p3 + n3) = encL k n1 n2 b := by
    rw [seg_cons (by omega) (by omega) (by omega), seg_cons (i := a + 1) (by omega) (by omega) (by omega), show a + 1 + 1 = a + 2 by omega, seg_app (i := a + 2) (j := a + 6) (by omega) (by omega) (by omega) (by omega), c6, c2.1, c2.2, f1]
    rfl
  refine ⟨f2, ⟨?_, n10, n20⟩, ?_, by omega, ?_⟩
  · rw [hbl, ← ek]; exact c7
  · rw [← f2, seg_len (by omega) (by omega) (by omega)]; omega
  · rw [← eb]; exact seg_bytes hb _ _
end Go.Proofs.YtlgfmmkabnbllaaDoor.Hand
namespace Go.Proofs.YtlgfmmkabnbllaaDoor.Hand
open Go.RowKit Go.Proofs.YtlgfmmkabnbllaaDoorW.PrintWords Go.Proofs.YtlgfmmkabnbllaaDoorW.PrintLast Go.Proofs.YtlgfmmkabnbllaaDoorW.PrintMore Go.Proofs.YtlgfmmkabnbllaaDoor.PA
theorem big_step (n c : Int) (h0 : 0 ≤ n) (h1 : n < 72057594037927936) (hc : 0 ≤ c ∧ c < 256) : Go.bits .or .u64 (IntKind.u64.wrap (n * 256)) (IntKind.u64.wrap c) = n * 256 + c := by
  rw [IntWalk.u64_in _ (by omega), IntWalk.u64_in _ (by omega), u64_or _ _ (by omega) (by omega) (by omega) (by omega)]
  have e1 : (n * 256).toNat = n.toNat * 2 ^ 8 := by omega
  have e2 := or_high c.toNat n.toNat 8 (by omega)
  rw [e1, Nat.or_comm, e2]
  omega
end Go.Proofs.YtlgfmmkabnbllaaDoor.Hand
namespace Go.Proofs.YtlgfmmkabnbllaaDoor.Hand
open Go.RowKit Go.Proofs.YtlgfmmkabnbllaaDoorW.PrintWords Go.Proofs.YtlgfmmkabnbllaaDoorW.PrintLast Go.Proofs.YtlgfmmkabnbllaaDoor.PA
end Go.Proofs.YtlgfmmkabnbllaaDoor.Hand
namespace Go.Proofs.YtlgfmmkabnbllaaDoor.Hand
open Go.RowKit Go.Proofs.YtlgfmmkabnbllaaDoorW.PrintWords Go.Proofs.YtlgfmmkabnbllaaDoorW.PrintLast Go.Proofs.YtlgfmmkabnbllaaDoor.PA
def tikref13_DecodeRecord.f (l0 : List Int) (a1 : Int) : Option (Int × Int × Int × List Int × Int × Int) :=
  if l0.all byteB = true ∧ l0.length < 140737488355328 then some (if a1 < 0 ∨ (l0.length : Int) < a1 then (0, 0, 0, [], 0, 1) else decOut (decV l0 a1)) else none
end Go.Proofs.YtlgfmmkabnbllaaDoor.Hand
namespace Go.Proofs.YtlgfmmkabnbllaaDoor.Hand
open Go.RowKit Go.Proofs.YtlgfmmkabnbllaaDoorW.PrintWords Go.Proofs.YtlgfmmkabnbllaaDoorW.PrintLast Go.Proofs.YtlgfmmkabnbllaaDoorW.PrintMore
def rhoI : Shelf.Ren where
  f := fun x => match x with
    | 129 => 111 | 171 => 74 | 243 => 104 | 246 => 113 | 283 => 117 | 284 => 118
    | 285 => 119 | 286 => 120 | 317 => 124 | 318 => 125 | 319 => 126 | 320 => 127
    | 337 => 128 | 338 => 54 | x => x
  t := fun x => match x with
    | 0 => 0 | 2 => 2 | 3 => 3 | 4 => 4 | 5 => 5 | 9 => 9 | 20 => 20 | 37 => 64 | 46 => 54 | 51 => 114 | 53 => 28
    | 171 => 168 | 173 => 170 | 212 => 179 | 213 => 180 | 232 => 184 | 233 => 140 | x => x
  g := fun x => match x with
    | 17 => 5 | 18 => 6 | 19 => 1 | x => x
set_option maxRecDepth 100000 in
theorem laysI0 : Lays.n171 Tryd.prog rhoI := by
  constructor
  all_goals first | kernel_rfl | (intro w; kernel_rfl) | (intro w; rfl)
theorem laysI : LaysM.n171 Tryd.prog rhoI := by
  constructor
  all_goals first | exact laysI0 | kernel_rfl | (intro w; kernel_rfl) | (intro w; rfl)
def TabI (w : World) : Prop := Lib.TabIs Tryd.prog w "internal/strconv.uint64pow10" .u64 Lib.pow10Tab
theorem gI : Tryd.prog.globalNamed "internal/strconv.uint64pow10" = some 5 := by kernel_rfl
theorem tabAt {w W : World} (h : TabI w) (hb : Below w.heap.size w W) : TabI W := by
  unfold TabI Lib.TabIs World.var? at *
  rw [gI] at h ⊢
  simp only [Option.bind_some] at h ⊢
  have hlt : 5 < w.heap.size := by
    rcases Nat.lt_or_ge 5 w.heap.size with h' | h'
    · exact h'
    · rw [Array.getElem?_eq_none h'] at h; cases h
  rw [hb.block _ hlt]
  exact h
def strconv_Itoa.f (a : Int) : Option ByteArray := if -9223372036854775808 ≤ a ∧ a ≤ 9223372036854775807 then some ⟨(Lib.itoa a).toArray⟩ else none
theorem strconv_Itoa.calls (a : Int) (r : ByteArray) (w : World) (hT : TabI w) (h : strconv_Itoa.f a = some r) :
    Calls Tryd.prog 74 #[.int .i64 a] w fun e w' => e = .returned (.string r) ∧ Below w.heap.size w w' := by
  unfold strconv_Itoa.f at h
  split at h
  case isFalse => cases h
  rename_i hq
  obtain rfl := Option.some.inj h
  refine (Any.strconv_Itoa laysI a hq.1 hq.2 w hT).mono ?_
  rintro e w' ⟨rfl, k, os, rfl⟩
  exact ⟨rfl, Lib.below_grow _ _ (Nat.le_refl _) k os⟩
end Go.Proofs.YtlgfmmkabnbllaaDoor.Hand
namespace Go.Proofs.YtlgfmmkabnbllaaDoor
open Go.ChangeShapes Go.WideShapes Go.ChangeAt Go.RowKit
open Go.Proofs.YtlgfmmkabnbllaaDoorW.PrintWords Go.Proofs.YtlgfmmkabnbllaaDoor.Hand
set_option exponentiation.threshold 3000
theorem tTabI : (Tryd.prog.globals[5]?).map (·.type) = some 179 := by kernel_rfl
theorem tabI_of {W : World} (h : laidMetH Tryd.prog [("math/bits.deBruijn32tab", Rows.laid_math_bits_deBruijn32tab), ("math/bits.deBruijn64tab", Rows.laid_math_bits_deBruijn64tab), ("internal/strconv.uint64pow10", Rows.laid_internal_strconv_uint64pow10)] W) : TabI W := by
  rw [MakeChecks.laidMetH_plain _ _ _ (by kernel_rfl)] at h
  have h2 := laidMet.tail (laidMet.tail h)
  have e : (Rows.laid_internal_strconv_uint64pow10 : DataW Unit) = Lib.tabData .u64 Lib.pow10Tab := by
    unfold Rows.laid_internal_strconv_uint64pow10 Lib.tabData Lib.pow10Tab
    rfl
  rw [e] at h2
  exact Lib.tabIs_of_head gI tTabI Tryd.underlying179 Tryd.underlying28 (by kernel_rfl) (by kernel_rfl) h2
end Go.Proofs.YtlgfmmkabnbllaaDoor
namespace Go.Proofs.YtlgfmmkabnbllaaDoor.Hand
open Go.RowKit Go.Proofs.YtlgfmmkabnbllaaDoorW.PrintWords Go.Proofs.YtlgfmmkabnbllaaDoorW.PrintLast Go.Proofs.YtlgfmmkabnbllaaDoorW.PrintMore Go.Proofs.YtlgfmmkabnbllaaDoor.PA
def MLit (e : TypeId) (w : World) (base : Nat) (v : Value) (xs : List Int) : Prop :=
  ∃ g, v = .slice (some ⟨g, 0, none⟩) xs.length xs.length ∧ base ≤ g ∧ g < w.heap.size ∧ ∀ (j : Nat) u, (xs.map (Value.int .u8))[j]? = some u → w.cell? ⟨g, j, none⟩ = some u
theorem MLit.below {e : TypeId} {w w1 : World} {base : Nat} {v : Value} {xs : List Int} (h : MLit e w base v xs) (hb : Below w.heap.size w w1) : MLit e w1 base v xs := by
  obtain ⟨g, hv, hg, hl, hc⟩ := h
  exact ⟨g, hv, hg, Nat.lt_of_lt_of_le hl hb.size, fun j u hu => (hb.cell hl).trans (hc j u hu)⟩
theorem MLit.lower {e : TypeId} {w : World} {base base' : Nat} {v : Value} {xs : List Int} (h : MLit e w base v xs) (hb : base' ≤ base) : MLit e w base' v xs := by
  obtain ⟨g, hv, hg, r⟩ := h
  exact ⟨g, hv, Nat.le_trans hb hg, r⟩
theorem add_at (b i j : Nat) : (⟨b, i, none⟩ : Addr).add j = ⟨b, i + j, none⟩ := by rw [Lib.add_plain2]
section
variable {P : Program} {ops rest : List Oper} {Ops : Array Oper} {a : Act} {Q : Exit → Act → World → Prop}
theorem lit_marked {o1 o2 : Oper} {w0 W : World} (base t e : Nat) {N : Tmp} (hg1 : o1.guard = none) (hg2 : o2.guard = none) (hd1 : o1.dst = some N) (ho2 : o2.op = .convert t t (.tmp N))
    (hev : ∀ v, (a.put o1.dst v).eval (.tmp N) = v) (ht : P.underlying t = some (.slice e)) (he : P.underlying e = some (.int .u8)) {xs : List Int} {inner : List Value} (hin : inner = xs.map (Value.int .u8))
    (hrun : (execOp a.eval o1).run P W = .ok (.value (.slice (some ⟨W.heap.size, 0, none⟩) xs.length xs.length)) (W.alloc (.cells inner.toArray e)))
    (HB : Below base w0 W) (hbase : base ≤ W.heap.size)
    (h : ∀ v1 w1, MLit e w1 base v1 xs → Below base w0 w1 → Below W.heap.size W w1 → wpList P Ops Q rest ((a.put o1.dst v1).put o2.dst v1) w1) : wpList P Ops Q (o1 :: o2 :: rest) a W := by
  refine Kd.event_run hg1 hrun (Kd.event_run (w1 := W.alloc (.cells inner.toArray e (inner.toArray.size, inner.toArray.size + 1))) hg2 ?_ (h _ _ ⟨W.heap.size, rfl, hbase, by simp, fun j u hu => ?_⟩ (HB.alloc hbase _) ((Below.refl _ _).alloc (Nat.le_refl _) _)))
  · unfold execOp
    simp only [ho2, hev]
    rw [Sem.run_bind, Lib.run_convert_bytes_const W t e inner.toArray xs.length xs.length ht he]
    rfl
  · rw [← hin] at hu
    rw [World.cell?_alloc_mark W inner.toArray e _ j]
    simpa using hu
theorem reps_ints {w : World} {b : Nat} {ok : Nat → Prop} (l : List Int) : Reps ((Kd.int .u8).M w b ok) 1 l (l.map (Value.int .u8)) := by
  refine ⟨by simp, fun j p hj => ?_⟩
  have : ((l.map (Value.int .u8)).drop (j * 1)).take 1 = [.int .u8 p] := by
    rw [Nat.mul_one]
    have hlt : j < l.length := (List.getElem?_eq_some_iff.1 hj).1
    apply List.ext_getElem?
    intro i
    rcases Nat.eq_zero_or_pos i with rfl | hi
    · simp [hj]
    · rw [List.getElem?_eq_none (by simp; omega), List.getElem?_eq_none (by simp; omega)]
  rw [this]
  exact rfl
theorem append_marked {o : Oper} {w0 W : World} (base : Nat) (hgd : o.guard = none) (s x : Operand) (t e : TypeId)
    (ho : o.op = .call { callee := .builtin .append, args := #[s, x], argTypes := #[t, t] })
    (ht : P.underlying t = some (.slice e)) (hinfo : (P.info? e).map (fun i => (i.zero, i.size, i.bytes)) = some (some (.int .u8 0), 1, 1))
    (v : Value) (xs ys : List Int) (A : Option Addr) (m c : Nat) (ok : Nat → Prop) (hs : a.eval s = v) (hx : a.eval x = .slice A m c)
    (HO : MLit e W base v xs) (HR : (Kd.int .u8).C W A m ys) (hm : 0 < m) (hfresh : ∀ k, W.heap.size ≤ k → ok k)
    (HB : Below base w0 W) (hbase : base ≤ W.heap.size) (hl : (xs.length + m) ≤ 140737488355328)
    (h : ∀ v1 w1, (Kd.int .u8).R e w1 base ok v1 (xs ++ ys) → Below base w0 w1 → Below W.heap.size W w1 → (∀ k, v1.ownBlock = some k → W.heap.size ≤ k) → wpList P Ops Q rest (a.put o.dst v1) w1) :
    wpList P Ops Q (o :: rest) a W := by
  obtain ⟨i, hi, hzz⟩ := Option.map_eq_some_iff.1 hinfo
  simp only [Prod.mk.injEq] at hzz
  obtain ⟨hz, hsz, hby⟩ := hzz
  obtain ⟨g, rfl, hg, hgl, hc⟩ := HO
  have hym : ys.length = m := HR.1
  obtain ⟨ad, rfl, hcs⟩ := HR.2.2 hm
  have hr := run_append_grow (P := P) W t o.type e i (.int .u8 0) ht hi hz ⟨g, 0, none⟩ xs.length xs.length (xs.map (Value.int .u8)) (by rw [List.length_map, hsz, Nat.mul_one])
    (fun j u hj => by rw [add_at, Nat.zero_add]; exact hc j u hj) ad m c (ys.map (Value.int .u8)) (by rw [List.length_map, hym, hsz, Nat.mul_one])
    (fun j u hj => by
      rw [List.getElem?_map] at hj
      obtain ⟨p, hp, rfl⟩ := Option.map_eq_some_iff.1 hj
      obtain ⟨cs, _, hk, hcell⟩ := hcs j p hp
      obtain rfl : cs = [.int .u8 p] := hk
      have h1 := hcell 0 _ rfl
      simpa [Kd.int, Kd.scalar] using h1)
    (by omega) (by omega) (growslice_fits (by omega) (by rw [hby]; omega))
  have hge := grownCap_ge W (xs.length + m) xs.length e
  have hcm : grownCap W (xs.length + m) xs.length e ≤ maxLen := grownCap_le_maxLen W (xs.length + m) xs.length e (by unfold maxLen; omega)
  generalize grownCap W (xs.length + m) xs.length e = cap at hr hge hcm
  refine Lib.wpList_append_run_sl W hgd s x t ho _ _ hs hx hr (h _ _ ⟨fun k hk => ?_, (xs ++ ys).map (Value.int .u8), ⟨by simp [Kd.int, Kd.scalar], .inr ⟨W.heap.size, cap, _, by rw [List.length_append, hym], hbase, heap_alloc_new W.drew _, by rw [List.length_append, hym]; exact hge, hcm, ?_, ?_⟩⟩, reps_ints _⟩ (below_drew1 HB |>.alloc hbase _) ((below_drew1 (Below.refl _ _)).alloc (Nat.le_refl _) _) (fun k hk => ?_))
  · have : W.heap.size = k := by simpa [Value.ownBlock] using hk
    exact hfresh k (by omega)
  · simp [Kd.int, Kd.scalar, Builtin.zeroCells, Value.cells, hym]; omega
  · have e1 : (xs ++ ys).length * (Kd.int .u8).sz = (xs.map (Value.int .u8) ++ ys.map (Value.int .u8)).length := by simp [Kd.int, Kd.scalar]
    rw [e1, Array.toList_append, Array.toList_append, List.take_append_of_le_length (by simp), List.map_append]
    exact List.take_of_length_le (by simp)
  · have : W.heap.size = k := by simpa [Value.ownBlock] using hk
    omega
end
theorem four_len {x : Int} {t : List Int} (h : wire_Four.f x = some t) : t.length = 4 := by
  obtain rfl := Option.some.inj h
  rfl
end Go.Proofs.YtlgfmmkabnbllaaDoor.Hand
namespace Go.Proofs.YtlgfmmkabnbllaaDoor.PS
open Go.RowKit Go.Proofs.YtlgfmmkabnbllaaDoorW.PrintWords Go.Proofs.YtlgfmmkabnbllaaDoorW.PrintLast Go.Proofs.YtlgfmmkabnbllaaDoorW.PrintMore
attribute [local go_sem] max2_int min2_int max_two min_two max_three min_three max_four min_four
open Go.Proofs.YtlgfmmkabnbllaaDoor.Hand
open Go.Proofs.YtlgfmmkabnbllaaDoor.PA
set_option linter.unusedVariables false
set_option linter.unusedSimpArgs false
def errW : Option Int → Value
 | none => .nilIface
 | some c => .iface 0 (.int .i64 c)
theorem errW_none : errW none = .nilIface := rfl
theorem errW_some (c : Int) : errW (some c) = .iface 0 (.int .i64 c) := rfl
theorem info5 : (Tryd.prog.info? 5).map (fun i => (i.zero, i.size, i.bytes)) = some (some (.int .u8 0), 1, 1) := by kernel_rfl
theorem info93 : (Tryd.prog.info? 93).map (fun i => (i.zero, i.size, i.bytes)) = some (some (.agg #[(.int .i64 0), (.int .u64 0), (.int .u64 0), (.slice none 0 0), (.int .i64 0), (.int .i64 0)]), 6, 64) := by kernel_rfl
structure S88 where
 f0 : Int
 f1 : Int
 f2 : Int
 f3 : (List Int)
def z88 : S88 := ⟨(0 : Int), (0 : Int), (0 : Int), ([] : List Int)⟩
def k88 : Kd S88 := Kd.iso (Kd.pair (Kd.int .i64) (Kd.pair (Kd.int .u64) (Kd.pair (Kd.int .u64) (Kd.slice 5 (Kd.int .u8))))) (fun x : S88 => (x.f0, x.f1, x.f2, x.f3))
theorem k88_open {w : World} {x : S88} {cs : List Value} (h : k88.K w x cs) : ∃ A3 c3, cs = [.int .i64 x.f0, .int .u64 x.f1, .int .u64 x.f2, .slice A3 x.f3.length c3] ∧ x.f3.length ≤ c3 ∧ (Kd.int .u8).C w A3 x.f3.length x.f3 := by
 obtain ⟨_, _, rfl, rfl, ⟨_, _, rfl, rfl, ⟨_, _, rfl, rfl, ⟨A3, c3, rfl, l3, g3⟩⟩⟩⟩ := h
 exact ⟨A3, c3, rfl, l3, g3⟩
theorem k88_openM {w : World} {base : Nat} {ok : Nat → Prop} {x : S88} {cs : List Value} (h : k88.M w base ok x cs) : ∃ v3, cs = [.int .i64 x.f0, .int .u64 x.f1, .int .u64 x.f2, v3] ∧ (Kd.int .u8).R 5 w base ok v3 x.f3 := by
 obtain ⟨_, _, rfl, rfl, ⟨_, _, rfl, rfl, ⟨_, _, rfl, rfl, ⟨v3, rfl, g3⟩⟩⟩⟩ := h
 exact ⟨v3, rfl, g3⟩
theorem k88_mkM (w : World) (base : Nat) (ok : Nat → Prop) (x : S88) {v3 : Value} (g3 : (Kd.int .u8).R 5 w base ok v3 x.f3) : k88.M w base ok x [.int .i64 x.f0, .int .u64 x.f1, .int .u64 x.f2, v3] := ⟨[.int .i64 x.f0], [.int .u64 x.f1, .int .u64 x.f2, v3], rfl, rfl, ⟨[.int .u64 x.f1], [.int .u64 x.f2, v3], rfl, rfl, ⟨[.int .u64 x.f2], [v3], rfl, rfl, ⟨v3, rfl, g3⟩⟩⟩⟩
def rd_T88 (xs : List S88) (i : Int) : S88 := xs.getD i.toNat z88
theorem at_T88 {w : World} {A : Option Addr} {n : Nat} {xs : List S88} (h : Kd.C k88 w A n xs) (i : Int) (h0 : 0 ≤ i) (h1 : i < n) : ∃ ad A3 c3, A = some ad ∧ w.cell? (ad.add (i.toNat * 4)) = some (.int .i64 (rd_T88 xs i).f0) ∧ w.cell? ⟨(ad.add (i.toNat * 4)).block, (ad.add (i.toNat * 4)).off + 1, none⟩ = some (.int .u64 (rd_T88 xs i).f1) ∧ w.cell? ⟨(ad.add (i.toNat * 4)).block, (ad.add (i.toNat * 4)).off + 2, none⟩ = some (.int .u64 (rd_T88 xs i).f2) ∧ w.cell? ⟨(ad.add (i.toNat * 4)).block, (ad.add (i.toNat * 4)).off + 3, none⟩ = some (.slice A3 (rd_T88 xs i).f3.length c3) ∧ (rd_T88 xs i).f3.length ≤ c3 ∧ (Kd.int .u8).C w A3 (rd_T88 xs i).f3.length (rd_T88 xs i).f3 := by
 obtain ⟨ad, c, e, _, hK, hc0⟩ := Kd.C_get h z88 i h0 h1
 have hc : ∀ j u, c[j]? = some u → w.cell? (ad.add (i.toNat * 4 + j)) = some u := hc0
 obtain ⟨A3, c3, rfl, l3, g3⟩ := k88_open hK
 exact ⟨ad, A3, c3, e, hc 0 _ rfl, by rw [← add_field _ _ 1 (by omega)]; exact hc 1 _ rfl, by rw [← add_field _ _ 2 (by omega)]; exact hc 2 _ rfl, by rw [← add_field _ _ 3 (by omega)]; exact hc 3 _ rfl, l3, g3⟩
structure S93 where
 f0 : S88
 f1 : Int
 f2 : Int
def z93 : S93 := ⟨z88, (0 : Int), (0 : Int)⟩
def k93 : Kd S93 := Kd.iso (Kd.pair k88 (Kd.pair (Kd.int .i64) (Kd.int .i64))) (fun x : S93 => (x.f0, x.f1, x.f2))
theorem k93_open {w : World} {x : S93} {cs : List Value} (h : k93.K w x cs) : ∃ A3 c3, cs = [.int .i64 x.f0.f0, .int .u64 x.f0.f1, .int .u64 x.f0.f2, .slice A3 x.f0.f3.length c3, .int .i64 x.f1, .int .i64 x.f2] ∧ x.f0.f3.length ≤ c3 ∧ (Kd.int .u8).C w A3 x.f0.f3.length x.f0.f3 := by
 obtain ⟨_, _, rfl, s0, ⟨_, _, rfl, rfl, rfl⟩⟩ := h
 obtain ⟨A3, c3, rfl, l3, g3⟩ := k88_open s0
 exact ⟨A3, c3, rfl, l3, g3⟩
theorem k93_openM {w : World} {base : Nat} {ok : Nat → Prop} {x : S93} {cs : List Value} (h : k93.M w base ok x cs) : ∃ v3, cs = [.int .i64 x.f0.f0, .int .u64 x.f0.f1, .int .u64 x.f0.f2, v3, .int .i64 x.f1, .int .i64 x.f2] ∧ (Kd.int .u8).R 5 w base ok v3 x.f0.f3 := by
 obtain ⟨_, _, rfl, s0, ⟨_, _, rfl, rfl, rfl⟩⟩ := h
 obtain ⟨v3, rfl, g3⟩ := k88_openM s0
 exact ⟨v3, rfl, g3⟩
theorem k93_mkM (w : World) (base : Nat) (ok : Nat → Prop) (x : S93) {v3 : Value} (g3 : (Kd.int .u8).R 5 w base ok v3 x.f0.f3) : k93.M w base ok x [.int .i64 x.f0.f0, .int .u64 x.f0.f1, .int .u64 x.f0.f2, v3, .int .i64 x.f1, .int .i64 x.f2] := ⟨[.int .i64 x.f0.f0, .int .u64 x.f0.f1, .int .u64 x.f0.f2, v3], [.int .i64 x.f1, .int .i64 x.f2], rfl, (k88_mkM w base ok x.f0 g3), ⟨[.int .i64 x.f1], [.int .i64 x.f2], rfl, rfl, rfl⟩⟩
def rd_T93 (xs : List S93) (i : Int) : S93 := xs.getD i.toNat z93
theorem at_T93 {w : World} {A : Option Addr} {n : Nat} {xs : List S93} (h : Kd.C k93 w A n xs) (i : Int) (h0 : 0 ≤ i) (h1 : i < n) : ∃ ad A3 c3, A = some ad ∧ w.cell? (ad.add (i.toNat * 6)) = some (.int .i64 (rd_T93 xs i).f0.f0) ∧ w.cell? ⟨(ad.add (i.toNat * 6)).block, (ad.add (i.toNat * 6)).off + 1, none⟩ = some (.int .u64 (rd_T93 xs i).f0.f1) ∧ w.cell? ⟨(ad.add (i.toNat * 6)).block, (ad.add (i.toNat * 6)).off + 2, none⟩ = some (.int .u64 (rd_T93 xs i).f0.f2) ∧ w.cell? ⟨(ad.add (i.toNat * 6)).block, (ad.add (i.toNat * 6)).off + 3, none⟩ = some (.slice A3 (rd_T93 xs i).f0.f3.length c3) ∧ w.cell? ⟨(ad.add (i.toNat * 6)).block, (ad.add (i.toNat * 6)).off + 4, none⟩ = some (.int .i64 (rd_T93 xs i).f1) ∧ w.cell? ⟨(ad.add (i.toNat * 6)).block, (ad.add (i.toNat * 6)).off + 5, none⟩ = some (.int .i64 (rd_T93 xs i).f2) ∧ (rd_T93 xs i).f0.f3.length ≤ c3 ∧ (Kd.int .u8).C w A3 (rd_T93 xs i).f0.f3.length (rd_T93 xs i).f0.f3 := by
 obtain ⟨ad, c, e, _, hK, hc0⟩ := Kd.C_get h z93 i h0 h1
 have hc : ∀ j u, c[j]? = some u → w.cell? (ad.add (i.toNat * 6 + j)) = some u := hc0
 obtain ⟨A3, c3, rfl, l3, g3⟩ := k93_open hK
 exact ⟨ad, A3, c3, e, hc 0 _ rfl, by rw [← add_field _ _ 1 (by omega)]; exact hc 1 _ rfl, by rw [← add_field _ _ 2 (by omega)]; exact hc 2 _ rfl, by rw [← add_field _ _ 3 (by omega)]; exact hc 3 _ rfl, by rw [← add_field _ _ 4 (by omega)]; exact hc 4 _ rfl, by rw [← add_field _ _ 5 (by omega)]; exact hc 5 _ rfl, l3, g3⟩
structure S123 where
 f0 : Int
 f1 : Int
 f2 : Int
 f3 : (List Int)
structure S127 where
 f0 : S123
 f1 : Int
 f2 : Int
end Go.Proofs.YtlgfmmkabnbllaaDoor.PS
