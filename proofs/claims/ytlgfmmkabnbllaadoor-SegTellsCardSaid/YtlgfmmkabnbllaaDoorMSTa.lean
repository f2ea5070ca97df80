/- Texts of this claim, put together. -/
import Derived.ProofKit
import Derived.OpenShut
import Derived.DataReads
import Derived.DataElems
import Derived.SizedLaws
import Derived.Laws.Cover2
import Derived.Test.YtlgfmmkabnbllaaDoorMSTWWords
import Derived.Test.YtlgfmmkabnbllaaDoorProg
import Derived.WalkKit
import Derived.WalkSpells
import Derived.WalkLawsBesides
import Derived.Defers
import Derived.Recover
import Derived.Deep.QuietTactic
import Derived.BigQuiet
import Derived.Test.YtlgfmmkabnbllaaDoorMSTWMore
import Derived.Test.YtlgfmmkabnbllaaDoorMSTWLast
import Derived.Below
import Derived.Deep.Draws
import Derived.Deep.AppendLies
import Derived.Maps.AppendAt
import Derived.OwnWalk
import Derived.Laws.BytesArg
import Derived.Laws.MakeOwn
import Derived.Laws.OwnMore
import Derived.Deep.OwnRows
import Derived.Tactics
import Derived.Lib.ConvBytes
import Derived.Laws.Slices
import Derived.KernelRfl
import Derived.RowKit3
import Derived.Deep.LoopGhost
import Derived.WideLaws
import Derived.Deep.DeepCutAuto
import Derived.Deep.CutBlock
import Derived.Deep.RegionHeld3
import Derived.Laws.Rows
import Derived.Lib.AppendStr
import Derived.ArgAppend
import Derived.Laws.IdiomCopy
import Derived.OrdersHeld
import Derived.Laws.BitsLemmas
import Derived.RowKit
import Derived.Test.YtlgfmmkabnbllaaDoorMSTWTab
import Derived.Test.YtlgfmmkabnbllaaDoorMSTWApart
import Derived.Test.YtlgfmmkabnbllaaDoorMSTWFoot
import Derived.Test.YtlgfmmkabnbllaaDoorMSTWShare
import Derived.Test.YtlgfmmkabnbllaaDoorMSTWN
import Derived.Laws.StructEq
import Derived.Test.YtlgfmmkabnbllaaDoorMSTWRepsOne
import Derived.Test.YtlgfmmkabnbllaaDoorMSTWGuard
import Derived.Test.YtlgfmmkabnbllaaDoorMSTWNEv
import Derived.Shelf.Bytes.SlJoin
import Derived.Laws.BitsAllLaws
import Derived.Laws.Tables
namespace Go.Proofs.YtlgfmmkabnbllaaDoor
open Go.RowKit Go.Proofs.YtlgfmmkabnbllaaDoorW.PrintWords Go.Proofs.YtlgfmmkabnbllaaDoorW.PrintLast Go.Proofs.YtlgfmmkabnbllaaDoorW.PrintMore
theorem zN : type_of% @blk_drewN := @blk_drewN
theorem zD : type_of% @blk_drew := @blk_drew
theorem zA : type_of% @blk_alloc := @blk_alloc
theorem yA : type_of% @below_alloc := @below_alloc
theorem yN : type_of% @pw_below_drewN := @pw_below_drewN
theorem yD : type_of% @below_drew1 := @below_drew1
theorem yS : type_of% @below_set := @below_set
theorem rN_ : type_of% @Kd.R_drewN := @Kd.R_drewN
theorem rD_ : type_of% @Kd.R_drew := @Kd.R_drew
theorem nN_ : type_of% @Kd.N_drewN := @Kd.N_drewN
theorem nD_ : type_of% @Kd.N_drew := @Kd.N_drew
theorem sD_ : type_of% @Kd.S_drew := @Kd.S_drew
theorem vD_ : type_of% @Kd.V_drew := @Kd.V_drew
structure Pk_ (w W : World) : Prop where mk :: (out : Below w.heap.size w W)
theorem Pk_.refl (w : World) : Pk_ w w := ⟨Below.refl _ _⟩
theorem Pk_.N {w W : World} (h : Pk_ w W) (n : Nat) : Pk_ w (W.drewN n) := ⟨pw_below_drewN h.out n⟩
theorem Pk_.D {w W : World} (h : Pk_ w W) : Pk_ w W.drew := ⟨below_drew1 h.out⟩
theorem Pk_.A {w W : World} (h : Pk_ w W) (o : Obj) : Pk_ w (W.alloc o) := ⟨below_alloc h.out o⟩
theorem bx_ {w W : World} {g : Nat} {o : Obj} (h : Aside0 (w.heap[g]? = some o)) (hp : Pk_ w W := by (repeat first | (with_reducible first | exact Pk_.refl _ | apply Pk_.N | apply Pk_.D | apply Pk_.A) | exact Pk_.refl _)) : W.heap[g]? = some o := blk_below h.out hp.out
theorem hx_ {w V W : World} (h : Aside0 (Below w.heap.size w V)) (hp : Pk_ V W := by (repeat first | (with_reducible first | exact Pk_.refl _ | apply Pk_.N | apply Pk_.D | apply Pk_.A) | exact Pk_.refl _)) : Below w.heap.size w W := below_step h.out hp.out
theorem rx_ {α : Type} {d : Kd α} {e base : Nat} {w W : World} {ok : Nat → Prop} {v : Value} {xs : List α} (h : Aside0 (Kd.R d e w base ok v xs)) (hp : Pk_ w W := by (repeat first | (with_reducible first | exact Pk_.refl _ | apply Pk_.N | apply Pk_.D | apply Pk_.A) | exact Pk_.refl _)) : Kd.R d e W base ok v xs := Kd.R_below h.out hp.out
theorem nx_ {α : Type} {d : Kd α} {e base : Nat} {w W : World} {ok : Nat → Prop} {v : Value} {xs : List α} (h : Aside0 (Kd.N d e w base ok v xs)) (hp : Pk_ w W := by (repeat first | (with_reducible first | exact Pk_.refl _ | apply Pk_.N | apply Pk_.D | apply Pk_.A) | exact Pk_.refl _)) : Kd.N d e W base ok v xs := Kd.N_below h.out hp.out
end Go.Proofs.YtlgfmmkabnbllaaDoor
set_option linter.unusedVariables false
set_option linter.unusedSimpArgs false
namespace Go.Proofs.YtlgfmmkabnbllaaDoor.Opens
open Go.RowKit Go.Proofs.YtlgfmmkabnbllaaDoorW.PrintWords
variable {P : Program}
def Opens {α : Type} (P : Program) (t : TypeId) (d : Kd α) (Q : α → Prop) : Prop :=
  ∀ (H : Type) (enc : TypeId × Value → H) (w : World) (base : Nat) (spare : Nat → Bool) (held : Bool) (fuel : Nat) (cs : List Value) (x : DataW H × List MemPlace),
    DataW.trod enc P w base spare held fuel t cs = some x → ∃ a, d.K w a cs ∧ Q a
theorem o_int {t : TypeId} {k : IntKind} (h : P.underlying t = some (.int k)) : Opens P t (Kd.int k) (fun n => (Lit.int k n).wf = true) := by
  intro H enc w base spare held fuel cs x hx
  obtain ⟨n, rfl, _, hw⟩ := DataW.trod_int h hx
  exact ⟨n, rfl, hw⟩
theorem mapM_get {α β : Type} {f : α → Option β} : ∀ {l : List α} {r : List β}, l.mapM f = some r → r.length = l.length ∧ ∀ (i : Nat) a, l[i]? = some a → ∃ b, f a = some b ∧ r[i]? = some b
  | [], r, h => by
    simp at h
    subst h
    exact ⟨rfl, fun i a h => by simp at h⟩
  | x :: l, r, h => by
    rw [List.mapM_cons] at h
    cases hx : f x with
    | none => simp [hx] at h
    | some y =>
      cases hl : l.mapM f with
      | none => simp [hx, hl] at h
      | some ys =>
        simp [hx, hl] at h
        subst h
        obtain ⟨h1, h2⟩ := mapM_get hl
        refine ⟨by simp [h1], fun i a ha => ?_⟩
        cases i with
        | zero =>
          simp at ha
          subst ha
          exact ⟨y, hx, by simp⟩
        | succ i => exact h2 i a (by simpa using ha)
abbrev kFloat (k : FloatKind) : Kd Nat := Kd.scalar (Value.float k) (fun _ => rfl)
theorem sized_any {H : Type} {enc : TypeId × Value → H} {W : World} {base : Nat} {spare : Nat → Bool} {held : Bool} {t e : TypeId} {a : Option Addr} {len cap : Nat} {d : DataW H} {ps : List MemPlace} {ts : List TypeId} {ds : List (DataW H)} {j : Nat}
    (hsz : (DataW.weightsEach P ts ds).all (· ≤ reachBytes) = true) (ht : ts[j]? = some t) (hd : ds[j]? = some d) (hu : P.underlying t = some (.slice e))
    (h : DataW.Trod enc P W base spare held t (.slice a len cap) d ps) : len * P.bytesOf e ≤ 140737488351232 := by
  obtain ⟨fuel, hf⟩ := h
  cases fuel with
  | zero => simp [DataW.trod] at hf
  | succ n =>
    unfold DataW.trod at hf
    rw [hu] at hf
    simp only [Value.cells] at hf
    split at hf
    all_goals first | (exfalso; simp_all; done) | skip
    · rename_i he
      simp at he
      obtain ⟨_, rfl, _⟩ := he
      simp
    · rename_i e' a' len' cap' he1 he2
      obtain rfl : e = e' := by simpa using he1
      simp at he2
      obtain ⟨rfl, rfl, rfl⟩ := he2
      split at hf
      · rw [Option.bind_eq_some_iff] at hf
        obtain ⟨elems, hm, hf⟩ := hf
        rw [Option.map_eq_some_iff] at hf
        obtain ⟨rest, _, hf⟩ := hf
        obtain ⟨hx, _⟩ := Prod.mk.inj hf
        subst hx
        have z := sized_slice hsz ht hd hu
        have hl := (mapM_get hm).1
        rw [List.length_range] at hl
        rw [List.length_map, List.length_map, hl] at z
        have : len * P.bytesOf e ≤ (len + rest.length) * P.bytesOf e := Nat.mul_le_mul_right _ (by omega)
        have z2 : reachBytes = 140737488351232 := rfl
        omega
      · cases hf
def OpensF {α : Type} (P : Program) (fs : List Field) (off : Nat) (d : Kd α) (Q : α → Prop) : Prop :=
  ∀ (H : Type) (enc : TypeId × Value → H) (w : World) (base : Nat) (spare : Nat → Bool) (held : Bool) (n : Nat) (cs : List Value), cs.length = off + d.sz →
    (∀ (i : Nat) (f : Field), fs[i]? = some f → ∃ x, DataW.trod enc P w base spare held n f.type ((cs.drop f.offset).take (P.cellsOf f.type)) = some x) → ∃ a, d.K w a (cs.drop off) ∧ Q a
theorem f_last {α : Type} {f : Field} {off : Nat} {d : Kd α} {Q : α → Prop} (ho : f.offset = off) (hc : P.cellsOf f.type = d.sz) (h : Opens P f.type d Q) : OpensF P [f] off d Q := by
  intro H enc w base spare held n cs hl hx
  obtain ⟨x, hx⟩ := hx 0 f rfl
  obtain ⟨a, ha, hq⟩ := h H enc w base spare held n _ x hx
  refine ⟨a, ?_, hq⟩
  rw [ho, hc, List.take_of_length_le (by simp; omega)] at ha
  exact ha
theorem f_cons {α β : Type} {f : Field} {fs : List Field} {off : Nat} {d : Kd α} {Q : α → Prop} {d' : Kd β} {Q' : β → Prop} (ho : f.offset = off) (hc : P.cellsOf f.type = d.sz) (h : Opens P f.type d Q)
    (hs : OpensF P fs (off + d.sz) d' Q') : OpensF P (f :: fs) off (Kd.pair d d') (fun x => Q x.1 ∧ Q' x.2) := by
  intro H enc w base spare held n cs hl hx
  have hl' : cs.length = off + (d.sz + d'.sz) := hl
  obtain ⟨x, hx0⟩ := hx 0 f rfl
  obtain ⟨a, ha, hq⟩ := h H enc w base spare held n _ x hx0
  obtain ⟨b, hb, hq'⟩ := hs H enc w base spare held n cs (by omega) (fun i f hf => hx (i + 1) f hf)
  rw [ho, hc] at ha
  refine ⟨(a, b), ⟨(cs.drop off).take d.sz, cs.drop (off + d.sz), ?_, ha, hb⟩, hq, hq'⟩
  rw [← List.drop_drop, List.take_append_drop]
theorem o_struct {α : Type} {t : TypeId} {fs : Array Field} {d : Kd α} {Q : α → Prop} (ht : P.underlying t = some (.struct fs)) (hc : P.cellsOf t = d.sz) (h : OpensF P fs.toList 0 d Q) : Opens P t d Q := by
  intro H enc w base spare held fuel cs x hx
  obtain ⟨xs, n, _, _, hl, hxs, hf⟩ := DataW.trod_struct ht hx
  have := h H enc w base spare held n cs (by omega) (fun i f hi => by
    rw [Array.getElem?_toList] at hi
    rw [hf i f hi]
    have : i < fs.size := by
      rcases Nat.lt_or_ge i fs.size with g | g
      · exact g
      · rw [Array.getElem?_eq_none g] at hi; cases hi
    exact ⟨_, List.getElem?_eq_getElem (by omega)⟩)
  simpa using this
theorem cells_get {w : World} {base : Nat} {a : Addr} {n : Nat} {cs : List Value} (h : w.cells? base a n = some cs) : cs.length = n ∧ ∀ (i : Nat) u, cs[i]? = some u → w.cell? (a.add i) = some u := by
  obtain ⟨_, hl, hi⟩ := World.cells?_some h
  refine ⟨hl, fun i u hu => ?_⟩
  have : i < n := by
    rcases Nat.lt_or_ge i cs.length with g | g
    · omega
    · rw [List.getElem?_eq_none g] at hu; cases hu
  rw [hi i this, hu]
theorem o_slice {α : Type} {t e : TypeId} {d : Kd α} {Q : α → Prop} (ht : P.underlying t = some (.slice e)) (hc : P.cellsOf e = d.sz) (h : Opens P e d Q) :
    Opens P t (Kd.slice e d) (fun l => l.length ≤ maxLen ∧ ∀ x ∈ l, Q x) := by
  intro H enc w base spare held fuel cs x hx
  cases fuel with
  | zero => simp [DataW.trod] at hx
  | succ n =>
    unfold DataW.trod at hx
    rw [ht] at hx
    split at hx
    all_goals first | (exfalso; simp_all; done) | skip
    · exact ⟨[], ⟨none, 0, rfl, Nat.le_refl _, Kd.C_nil _ _⟩, Nat.zero_le _, fun _ h => by cases h⟩
    · rename_i e' a len cap he
      obtain rfl : e = e' := by simpa using he
      split at hx
      · rename_i hb
        obtain ⟨hb1, hb2, hb3⟩ := hb
        rw [Option.bind_eq_some_iff] at hx
        obtain ⟨elems, hm, _⟩ := hx
        obtain ⟨hl, hg⟩ := mapM_get hm
        rw [List.length_range] at hl
        have each : ∀ i, i < len → ∃ c : List Value, c.length = d.sz ∧ (∃ a, d.K w a c ∧ Q a) ∧ ∀ j u, c[j]? = some u → w.cell? (a.add (i * d.sz + j)) = some u := by
          intro i hi
          obtain ⟨b, hb, _⟩ := hg i i (by simp [hi])
          rw [Option.bind_eq_some_iff] at hb
          obtain ⟨c, hc1, hc2⟩ := hb
          obtain ⟨hl1, hl2⟩ := cells_get hc1
          obtain ⟨z, hz, hq⟩ := h H enc w base spare held n c b hc2
          refine ⟨c, by omega, ⟨z, hz, hq⟩, fun j u hu => ?_⟩
          have := hl2 j u hu
          rw [hc] at this
          rw [← this, Addr.add_add]
        have pick : ∀ m, m ≤ len → ∃ l : List α, l.length = m ∧ (∀ x ∈ l, Q x) ∧ ∀ j p, l[j]? = some p → ∃ c : List Value, c.length = d.sz ∧ d.K w p c ∧ ∀ i u, c[i]? = some u → w.cell? (a.add (j * d.sz + i)) = some u := by
          intro m
          induction m with
          | zero => exact fun _ => ⟨[], rfl, fun _ h => by (cases h), fun j p h => by simp at h⟩
          | succ m ih =>
            intro hm
            obtain ⟨l, h1, h2, h3⟩ := ih (by omega)
            obtain ⟨c, c1, ⟨z, c2, c3⟩, c4⟩ := each m (by omega)
            refine ⟨l ++ [z], by simp [h1], ?_, ?_⟩
            · intro x hx
              rcases List.mem_append.1 hx with hx | hx
              · exact h2 x hx
              · rw [List.mem_singleton.1 hx]; exact c3
            · intro j p hp
              rcases Nat.lt_or_ge j m with g | g
              · rw [List.getElem?_append_left (by omega)] at hp
                exact h3 j p hp
              · rw [List.getElem?_append_right (by omega)] at hp
                have hj : j = m := by
                  rcases Nat.lt_or_ge (j - l.length) 1 with g2 | g2
                  · omega
                  · rw [List.getElem?_eq_none (by simpa using g2)] at hp; cases hp
                subst hj
                rw [h1, Nat.sub_self] at hp
                simp at hp
                subst hp
                exact ⟨c, c1, c2, c4⟩
        obtain ⟨l, l1, l2, l3⟩ := pick len (Nat.le_refl _)
        subst l1
        refine ⟨l, ⟨some a, cap, rfl, hb2, ⟨rfl, ?_, fun _ => ⟨a, rfl, l3⟩⟩⟩, Nat.le_trans hb2 hb3, l2⟩
        have : maxLen ≤ 9223372036854775807 := by unfold maxLen; omega
        omega
      · cases hx
theorem open_arg {α : Type} {t : TypeId} {d : Kd α} {Q : α → Prop} (h : Opens P t d Q) {H : Type} {enc : TypeId × Value → H} {w : World} {base : Nat} {spare : Nat → Bool} {held : Bool} {v : Value} {D : DataW H} {ps : List MemPlace}
    (hx : DataW.Trod enc P w base spare held t v D ps) : ∃ a, d.K w a v.cells.toList ∧ Q a := by
  obtain ⟨fuel, hf⟩ := hx
  exact h H enc w base spare held fuel _ _ hf
theorem agg_of {r : Reach} {b0 : Nat} {t : TypeId} {fs : Array Field} {w : World} {v : Value} (hs : P.underlying t = some (.struct fs)) (hv : Value.okWide P w r b0 t v) {cs : List Value} (h : v.cells.toList = cs) : v = .agg cs.toArray := by
  obtain ⟨c, rfl, _⟩ := WideShapes.okWide_struct hs hv
  subst h
  simp [Value.cells]
end Go.Proofs.YtlgfmmkabnbllaaDoor.Opens
namespace Go.Proofs.YtlgfmmkabnbllaaDoor.Hand
open Go.RowKit Go.Proofs.YtlgfmmkabnbllaaDoorW.PrintWords Go.Proofs.YtlgfmmkabnbllaaDoorW.PrintLast
structure Mu (S : Nat → Prop) (w w' : World) : Prop where
  os : w'.os = w.os
  tape : w'.tape = w.tape
  output : w'.output = w.output
  size : w.heap.size ≤ w'.heap.size
  block : ∀ k, k < w.heap.size → ¬ S k → w'.heap[k]? = w.heap[k]?
theorem Mu.refl (S : Nat → Prop) (w : World) : Mu S w w := ⟨rfl, rfl, rfl, Nat.le_refl _, fun _ _ _ => rfl⟩
theorem Mu.trans {S : Nat → Prop} {a b c : World} (h : Mu S a b) (k : Mu S b c) : Mu S a c :=
  ⟨k.os.trans h.os, k.tape.trans h.tape, k.output.trans h.output, Nat.le_trans h.size k.size, fun i hi hs => (k.block i (Nat.lt_of_lt_of_le hi h.size) hs).trans (h.block i hi hs)⟩
theorem Mu.mono {S T : Nat → Prop} {w w' : World} (h : Mu S w w') (hST : ∀ k, k < w.heap.size → S k → T k) : Mu T w w' := ⟨h.os, h.tape, h.output, h.size, fun k hk ht => h.block k hk (fun hs => ht (hST k hk hs))⟩
theorem Mu.drewN {S : Nat → Prop} {a w : World} (h : Mu S a w) (n : Nat) : Mu S a (w.drewN n) := ⟨h.os, h.tape, h.output, h.size, h.block⟩
theorem Mu.drew {S : Nat → Prop} {a w : World} (h : Mu S a w) : Mu S a w.drew := ⟨h.os, h.tape, h.output, h.size, h.block⟩
theorem Mu.alloc {S : Nat → Prop} {a w : World} (h : Mu S a w) (o : Obj) : Mu S a (w.alloc o) :=
  h.trans ⟨rfl, rfl, rfl, by simp, fun k hk _ => Below.heap_alloc _ _ _ hk⟩
theorem Mu.setCell {S : Nat → Prop} {a w : World} (h : Mu S a w) {p : Addr} (hp : p.block < a.heap.size → S p.block) (u : Value) : Mu S a (w.setCell p u) :=
  ⟨h.os, h.tape, h.output, by simpa [World.setCell] using h.size, fun k hk hs => (Below.heap_setCell _ _ _ _ (fun e => hs (by rw [e]; exact hp (by omega)))).trans (h.block k hk hs)⟩
theorem Mu.of_below {w w' : World} (h : Below w.heap.size w w') (S : Nat → Prop) : Mu S w w' := ⟨h.os, h.tape, h.output, h.size, fun k hk _ => h.block k hk⟩
theorem Mu.below_of {S : Nat → Prop} {w0 w w' : World} (hb : Below w0.heap.size w0 w) (h : Mu S w w') (hS : ∀ k, k < w0.heap.size → ¬ S k) : Below w0.heap.size w0 w' :=
  hb.trans ⟨h.os, h.tape, h.output, h.size, fun k hk => h.block k (Nat.lt_of_lt_of_le hk hb.size) (hS k hk)⟩
theorem heap_lt {w : World} {g : Nat} {o : Obj} (h : w.heap[g]? = some o) : g < w.heap.size := by
  rcases Nat.lt_or_ge g w.heap.size with h1 | h1
  · exact h1
  · rw [Array.getElem?_eq_none h1] at h; cases h
theorem Mu.heap {S : Nat → Prop} {w w' : World} (h : Mu S w w') {g : Nat} {o : Obj} (hg : w.heap[g]? = some o) (hs : ¬ S g) : w'.heap[g]? = some o := (h.block g (heap_lt hg) hs).trans hg
theorem C_mu {k : IntKind} {S : Nat → Prop} {w w' : World} (h : Mu S w w') {A : Option Addr} {n : Nat} {l : List Int} (hC : Kd.C (Kd.int k) w A n l) (hA : ∀ ad, A = some ad → 0 < n → ¬ S ad.block) : Kd.C (Kd.int k) w' A n l := by
  obtain ⟨h1, h2, h3⟩ := hC
  refine ⟨h1, h2, fun hn => ?_⟩
  obtain ⟨ad, e, hc⟩ := h3 hn
  refine ⟨ad, e, fun j p hj => ?_⟩
  obtain ⟨c, c1, c2, c3⟩ := hc j p hj
  refine ⟨c, c1, c2, fun i u hu => ?_⟩
  have := c3 i u hu
  have hb : (ad.add (j * (Kd.int k).sz + i)).block = ad.block := by unfold Addr.add; split <;> rfl
  have hlt := World.block_lt_of_cell? _ _ this
  rw [World.cell?_of_block (w := w)]
  · exact this
  · rw [hb] at hlt ⊢
    exact h.block _ hlt (hA ad e hn)
def IsRd (w : World) (F : Nat → Prop) (g : Nat) (l : List Int) (at_ e : Int) : Prop :=
  ∃ (A : Option Addr) (c : Nat), F g ∧ w.heap[g]? = some (.cells #[.slice A l.length c, .int .i64 at_, .int .i64 e] 166 (0, 0)) ∧ l.length ≤ c ∧ Kd.C (Kd.int .u8) w A l.length l ∧
    (∀ ad, A = some ad → 0 < l.length → F ad.block ∧ ad.block ≠ g)
theorem IsRd.mu {w w' : World} {S F : Nat → Prop} {g : Nat} {l : List Int} {at_ e : Int} (h : IsRd w F g l at_ e) (hm : Mu S w w') (hF : ∀ k, F k → ¬ S k) : IsRd w' F g l at_ e := by
  obtain ⟨A, c, h1, h2, h3, h4, h5⟩ := h
  exact ⟨A, c, h1, hm.heap h2 (hF g h1), h3, C_mu hm h4 (fun ad ea hn => hF _ (h5 ad ea hn).1), h5⟩
theorem IsRd.len {w : World} {F : Nat → Prop} {g : Nat} {l : List Int} {at_ e : Int} (h : IsRd w F g l at_ e) : l.length ≤ 9223372036854775807 := by
  obtain ⟨A, c, h1, h2, h3, h4, h5⟩ := h
  exact h4.2.1
theorem IsRd.put {w w' : World} {F : Nat → Prop} {g : Nat} {l : List Int} {at_ e at' e' : Int} (h : IsRd w F g l at_ e) (hm : Mu (· = g) w w')
    (hg : ∀ v : Value, w.heap[g]? = some (.cells #[v, .int .i64 at_, .int .i64 e] 166 (0, 0)) → w'.heap[g]? = some (.cells #[v, .int .i64 at', .int .i64 e'] 166 (0, 0))) : IsRd w' F g l at' e' := by
  obtain ⟨A, c, h1, h2, h3, h4, h5⟩ := h
  exact ⟨A, c, h1, hg _ h2, h3, C_mu hm h4 (fun ad ea hn => (h5 ad ea hn).2), h5⟩
theorem add_block (ad : Addr) (n : Nat) : (ad.add n).block = ad.block := by unfold Addr.add; split <;> rfl
theorem set_at {w : World} {g t : Nat} {v a e x : Value} (h : w.heap[g]? = some (.cells #[v, a, e] t (0, 0))) : (w.setCell ⟨g, 1, none⟩ x).heap[g]? = some (.cells #[v, x, e] t (0, 0)) := by
  simp [World.setCell, Array.getElem?_modify, h]
theorem set_e {w : World} {g t : Nat} {v a e x : Value} (h : w.heap[g]? = some (.cells #[v, a, e] t (0, 0))) : (w.setCell ⟨g, 2, none⟩ x).heap[g]? = some (.cells #[v, a, x] t (0, 0)) := by
  simp [World.setCell, Array.getElem?_modify, h]
set_option maxHeartbeats 1000000 in
theorem byte_ok {w : World} {F : Nat → Prop} {g : Nat} {l : List Int} {at_ e : Int} (hI : IsRd w F g l at_ e) (h0 : 0 ≤ at_) (h1 : at_ < l.length) :
    Calls Tryd.prog 123 #[.pointer (some ⟨g, 0, none⟩)] w fun en w' => en = .returned (.int .u8 (rd l at_)) ∧ IsRd w' F g l (at_ + 1) e ∧ Mu (· = g) w w' := by
  have HI := Aside0.mk hI
  obtain ⟨A, c, i1, i2, i3, i4, i5⟩ := hI
  have I2 := Aside0.mk i2
  have hlen := i4.2.1
  have c0 := blk_cell i2 0
  have c1 := blk_cell i2 1
  have fz := blk_frozen i2 1
  obtain ⟨ad, ea, hx⟩ := Kd.at_int i4 at_ h0 h1
  subst ea
  have hne : ad.block ≠ g := (i5 ad rfl (by omega)).2
  clear i1 i2 i4 i5
  have ht : (at_ == (l.length : Int)) = false := beq_eq_false_iff_ne.2 (by omega)
  go_enter Tryd.func123, Tryd.ntmps123
  go_wp2
  go_quiet (fail)
  go_wp2
  obtain ⟨W1, hW1⟩ : ∃ W1, (w.drewN nq).setCell ⟨g, 1, none⟩ (.int .i64 (at_ + 1)) = W1 := ⟨_, rfl⟩
  rw [hW1]
  have J2 : W1.heap[g]? = some (.cells #[.slice (some ad) l.length c, .int .i64 (at_ + 1), .int .i64 e] 166 (0, 0)) := by rw [← hW1]; exact set_at I2.out
  have hm : Mu (· = g) w W1 := by rw [← hW1]; exact ((Mu.refl (· = g) w).drewN _).setCell (p := ⟨g, 1, none⟩) (fun _ => rfl) _
  have hx1 : W1.cell? (ad.add at_.toNat) = some (.int .u8 (rd l at_)) := by
    rw [← hx, ← hW1]
    exact World.cell?_of_block (w := w) (Below.heap_setCell _ _ _ _ (by rw [add_block]; exact hne))
  have d0 := blk_cell J2 0
  have d1 := blk_cell J2 1
  clear hW1 c0 c1 fz hx
  go_quiet (fail)
  go_wp2
  go_ret
  have h3 : Mu (· = g) w (W1.drewN nq) := hm.drewN nq
  refine ⟨rfl, HI.out.put h3 (fun v hv => ?_), h3⟩
  rw [I2.out] at hv
  obtain rfl : Value.slice (some ad) l.length c = v := by
    injection hv with hv
    injection hv with hv
    simpa using hv
  exact J2
set_option maxHeartbeats 1000000 in
theorem byte_short {w : World} {F : Nat → Prop} {g : Nat} {l : List Int} {at_ e : Int} (hI : IsRd w F g l at_ e) (h1 : at_ = l.length) :
    Calls Tryd.prog 123 #[.pointer (some ⟨g, 0, none⟩)] w fun en w' => en = .panicked [{ v := .iface 176 (.agg #[.int .i64 3]), recovered := false }] ∧ IsRd w' F g l at_ e ∧ Mu (· = g) w w' := by
  have HI := Aside0.mk hI
  obtain ⟨A, c, i1, i2, i3, i4, i5⟩ := hI
  have hlen := i4.2.1
  have c0 := blk_cell i2 0
  have c1 := blk_cell i2 1
  clear i1 i2 i4 i5
  have ht : (at_ == (l.length : Int)) = true := beq_iff_eq.2 (by omega)
  have H1 := Aside0.mk h1
  clear h1
  go_enter Tryd.func123, Tryd.ntmps123
  go_wp2
  go_quiet (fail)
  go_wp2
  exact ⟨rfl, rfl, HI.out.put ((Mu.refl _ _).drewN nq) (fun v hv => hv), (Mu.refl _ _).drewN nq⟩
end Go.Proofs.YtlgfmmkabnbllaaDoor.Hand
namespace Go.Proofs.YtlgfmmkabnbllaaDoor.Hand
open Go.RowKit Go.Proofs.YtlgfmmkabnbllaaDoorW.PrintWords Go.Proofs.YtlgfmmkabnbllaaDoorW.PrintLast
def stopV (e : Int) : List PanicEntry := [{ v := .iface 176 (.agg #[.int .i64 e]), recovered := false }]
def vstep (n c : Int) (i : Nat) : Int := Go.bits .or .u64 n (IntKind.u64.wrap (IntKind.u64.wrap (Go.bits .andNot .u8 c 128) * 2 ^ (7 * i)))
def numL (l : List Int) : Nat → Nat → Int → Int → Except Int (Int × Int)
  | 0, _, _, _ => .error 2
  | k + 1, i, n, at_ => if at_ = l.length then .error 3 else if (i = 9 ∧ rd l at_ > 1) ∨ (rd l at_ = 0 ∧ 0 < i) then .error 2 else
    if rd l at_ < 128 then .ok (vstep n (rd l at_) i, at_ + 1) else numL l k (i + 1) (vstep n (rd l at_) i) (at_ + 1)
def NumPost (F : Nat → Prop) (g : Nat) (l : List Int) (e : Int) (w : World) (enc : Int → Value) : Except Int (Int × Int) → Ending → World → Prop
  | .ok (n, at'), en, w' => en = .returned (enc n) ∧ IsRd w' F g l at' e ∧ at' ≤ l.length ∧ 0 ≤ at' ∧ Mu (· = g) w w'
  | .error x, en, w' => en = .panicked (stopV x) ∧ (∃ at', IsRd w' F g l at' e) ∧ Mu (· = g) w w'
set_option maxHeartbeats 2000000 in
theorem num_as {w : World} {F : Nat → Prop} {g : Nat} {l : List Int} {at_ e : Int} {R : Except Int (Int × Int)} (hR : numL l 10 0 0 at_ = R) (hI : IsRd w F g l at_ e) (h0 : 0 ≤ at_) (h1 : at_ ≤ l.length) :
    Calls Tryd.prog 116 #[.pointer (some ⟨g, 0, none⟩)] w (NumPost F g l e w (Value.int .u64) R) := by
  have HI := Aside0.mk hI
  have HR0 := Aside0.mk hR
  clear hR
  have hlen := hI.len
  clear hI
  go_enter Tryd.func116, Tryd.ntmps116
  go_wp2
  go_loopw [3, 6] (fun v3 v6 wr => ∃ (i : Nat) (n p : Int), i ≤ 10 ∧ v6 = .int .i64 i ∧ v3 = .int .u64 n ∧ 0 ≤ p ∧ p ≤ l.length ∧ Aside0 (numL l (10 - i) i n p = R) ∧ Aside0 (IsRd wr F g l p e) ∧ Aside0 (Mu (· = g) w wr)) (fun _ v6 _ => 10 - (intOf v6).toNat)
  case atStart => exact ⟨0, 0, at_, by omega, rfl, rfl, h0, h1, HR0, HI, ⟨Mu.refl _ _⟩⟩
  case round =>
    obtain ⟨i, n, p, hi, rfl, rfl, p0, p1, HN, HR, HM⟩ := hrel
    clear HI HR0 h0 h1
    by_cases hlt : i < 10
    · have hk : 10 - i = (9 - i) + 1 := by omega
      by_cases hp : p = l.length
      · have hr : R = .error 3 := by rw [← HN.out, hk]; simp only [numL]; rw [if_pos hp]
        have HP := Aside0.mk hp
        clear hp hk
        have Hr := Aside0.mk hr
        clear hr HN
        go_wp2_with fail
        refine (byte_short HR.out HP.out).mono ?_
        rintro en w1 ⟨rfl, hI1, hm1⟩
        refine ⟨rfl, ?_⟩
        rw [Hr.out]
        exact ⟨rfl, ⟨_, hI1⟩, HM.out.trans hm1⟩
      · have hp' : p < l.length := by omega
        have hr : R = if (i = 9 ∧ rd l p > 1) ∨ (rd l p = 0 ∧ 0 < i) then .error 2 else if rd l p < 128 then .ok (vstep n (rd l p) i, p + 1) else numL l (9 - i) (i + 1) (vstep n (rd l p) i) (p + 1) := by
          rw [← HN.out, hk]; simp only [numL]; rw [if_neg hp]
        have HP := Aside0.mk hp
        clear hp hk HN
        go_wp2_with fail
        refine (byte_ok HR.out p0 hp').mono ?_
        rintro en w1 ⟨rfl, hI1, hm1⟩
        have HI1 := Aside0.mk hI1
        have HM1 := Aside0.mk (HM.out.trans hm1)
        clear hI1 hm1 HR HM
        generalize rd l p = c at *
        by_cases hA : i = 9 ∧ 1 < c
        · rw [if_pos (.inl hA)] at hr
          obtain ⟨a1, a2⟩ := hA
          have e1 : ((i : Int) == 9) = true := beq_iff_eq.2 (by omega)
          clear a1
          have Hr := Aside0.mk hr
          clear hr
          go_wp2
          refine ⟨rfl, ?_⟩
          rw [Hr.out]
          exact ⟨rfl, ⟨_, HI1.out⟩, HM1.out⟩
        · have e1 : (((i : Int) == 9) && decide (1 < c)) = false := by
            rw [Bool.and_eq_false_iff]
            by_cases h9 : i = 9
            · right; exact decide_eq_false (fun h => hA ⟨h9, h⟩)
            · left; exact beq_eq_false_iff_ne.2 (by omega)
          by_cases hB : c = 0 ∧ 0 < i
          · rw [if_pos (.inr hB)] at hr
            obtain ⟨a1, a2⟩ := hB
            have e2 : (c == 0) = true := beq_iff_eq.2 a1
            have e3 : decide (1 < c) = false := decide_eq_false (by omega)
            clear a1 e1 hA
            have Hr := Aside0.mk hr
            clear hr
            go_wp2
            all_goals
              refine ⟨rfl, ?_⟩
              rw [Hr.out]
              exact ⟨rfl, ⟨_, HI1.out⟩, HM1.out⟩
          · rw [if_neg (by rintro (h | h); exact hA h; exact hB h)] at hr
            have e2 : ((c == 0) && decide (0 < i)) = false := by
              rw [Bool.and_eq_false_iff]
              by_cases h9 : c = 0
              · right; exact decide_eq_false (fun h => hB ⟨h9, by omega⟩)
              · left; exact beq_eq_false_iff_ne.2 (by omega)
            clear hA hB
            have key : ∀ (x y : Bool), ((i : Int) == 9) = x → (c == 0) = y → (x = true → decide (1 < c) = false) ∧ (y = true → decide (0 < i) = false) := by
              intro x y hx hy
              rw [hx] at e1
              rw [hy] at e2
              constructor
              · rintro rfl; simpa using e1
              · rintro rfl; simpa using e2
            clear e1 e2
            by_cases h128 : c < 128
            · rw [if_pos h128] at hr
              have Hr := Aside0.mk hr
              clear hr
              cases e1 : ((i : Int) == 9) <;> cases e2 : (c == 0) <;> obtain ⟨k1, k2⟩ := key _ _ e1 e2 <;> clear key
              all_goals
                first | (have k3 := k1 rfl) | skip
                first | (have k4 := k2 rfl) | skip
                clear k1 k2
                first | (exfalso; simp at e1 k4; omega) | (go_wp2; go_ret; rw [Hr.out]; exact ⟨rfl, HI1.out, by omega, by omega, HM1.out⟩)
            · rw [if_neg h128] at hr
              have HN1 := Aside0.mk hr.symm
              clear hr
              cases e1 : ((i : Int) == 9) <;> cases e2 : (c == 0) <;> obtain ⟨k1, k2⟩ := key _ _ e1 e2 <;> clear key
              all_goals
                first | (have k3 := k1 rfl) | skip
                first | (have k4 := k2 rfl) | skip
                clear k1 k2
                first | (exfalso; simp at k3; omega) | (exfalso; simp at e2; omega) | (go_wp2; go_roundw)
                try case rel => exact ⟨i + 1, vstep n c i, p + 1, by omega, by go_num, rfl, by omega, by omega, ⟨by rw [show 10 - (i + 1) = 9 - i by omega]; exact HN1.out⟩, HI1, HM1⟩
                try case measure => simp [intOf]; omega
    · have hr : R = .error 2 := by rw [← HN.out, show 10 - i = 0 by omega]; rfl
      have Hr := Aside0.mk hr
      clear hr HN
      go_wp2
      refine ⟨rfl, ?_⟩
      rw [Hr.out]
      exact ⟨rfl, ⟨_, HR.out⟩, HM.out⟩
end Go.Proofs.YtlgfmmkabnbllaaDoor.Hand
namespace Go.Proofs.YtlgfmmkabnbllaaDoor.Hand
open Go.RowKit Go.Proofs.YtlgfmmkabnbllaaDoorW.PrintWords Go.Proofs.YtlgfmmkabnbllaaDoorW.PrintLast
theorem alloc_blk {w : World} {g : Nat} {o O : Obj} (h : w.heap[g]? = some o) : (w.alloc O).heap[g]? = some o := (Below.heap_alloc _ _ _ (heap_lt h)).trans h
set_option maxHeartbeats 1000000 in
theorem caught_nil {w : World} {p : Addr} :
    Calls Tryd.prog 122 #[.nilIface, .pointer (some p)] w fun en w' => en = .returned (.tuple #[]) ∧ w' = w := by
  go_enter Tryd.func122, Tryd.ntmps122
  go_wp2
  go_end0
  exact ⟨rfl, rfl⟩
set_option maxHeartbeats 1000000 in
theorem caught_stop {w : World} {g : Nat} {v a e : Value} {X : Int} (h : w.heap[g]? = some (.cells #[v, a, e] 166 (0, 0))) :
    Calls Tryd.prog 122 #[.iface 176 (.agg #[.int .i64 X]), .pointer (some ⟨g, 2, none⟩)] w fun en w' => en = .returned (.tuple #[]) ∧ w'.heap[g]? = some (.cells #[v, a, .int .i64 X] 166 (0, 0)) ∧ Mu (· = g) w w' := by
  have h1 := alloc_blk (O := .cells #[.int .i64 X] 176) h
  have c2 := blk_cell h1 2
  have fz := blk_frozen h1 2
  have hta : ∀ (v : Value) (W : World), (Instr.typeAssert (.iface 176 v) 20 176 true).run Tryd.prog W = .ok (.tuple #[v, .bool true]) W := fun v W => by kernel_rfl
  have H := Aside0.mk h1
  clear h h1
  go_enter Tryd.func122, Tryd.ntmps122
  go_wp2
  go_end0
  exact ⟨rfl, set_e H.out, ((Mu.refl (· = g) w).alloc _).setCell (p := ⟨g, 2, none⟩) (fun _ => rfl) _⟩
theorem set_0 {w : World} {g t : Nat} {v x : Value} (h : w.heap[g]? = some (.cells #[v] t (0, 0))) : (w.setCell ⟨g, 0, none⟩ x).heap[g]? = some (.cells #[x] t (0, 0)) := by
  simp [World.setCell, Array.getElem?_modify, h]
def allOrders (md : Region.Mode) (ops : Array Oper) : Nat → Array Bool → List (List Nat)
  | 0, _ => [[]]
  | fuel + 1, listed => match Region.ready md ops listed with
    | [] => [[]]
    | r => r.flatMap fun i => (allOrders md ops fuel (listed.setIfInBounds i true)).map (i :: ·)
theorem mem_allOrders (md : Region.Mode) (ops : Array Oper) : ∀ (fuel t : Nat) (listed : Array Bool), Region.linearise.go md ops fuel t listed [] ∈ allOrders md ops fuel listed := by
  intro fuel
  induction fuel with
  | zero => intro t listed; simp [Region.linearise.go, allOrders]
  | succ fuel ih =>
    intro t listed
    simp only [Region.linearise.go]
    change (match (Region.ready md ops listed)[t % (Region.ready md ops listed).length]? with
      | some i => Region.linearise.go md ops fuel (t / (Region.ready md ops listed).length) (listed.setIfInBounds i true) [i]
      | none => [].reverse) ∈ _
    cases hi : (Region.ready md ops listed)[t % (Region.ready md ops listed).length]? with
    | none =>
      have hnil : Region.ready md ops listed = [] := by
        cases hr : Region.ready md ops listed with
        | nil => rfl
        | cons x xs =>
          rw [hr] at hi
          have hlt : t % (x :: xs).length < (x :: xs).length := Nat.mod_lt _ (by simp)
          simp at hi
          simp at hlt
          omega
      simp [allOrders, hnil]
    | some i =>
      simp only []
      rw [linearise_go_acc, List.reverse_singleton, List.singleton_append]
      have hm := List.mem_of_getElem? hi
      unfold allOrders
      split
      · next h => rw [h] at hm; cases hm
      · exact List.mem_flatMap.2 ⟨i, hm, List.mem_map.2 ⟨_, ih _ _, rfl⟩⟩
theorem wpS_region_draw {P : Program} {Q : Exit → Act → List Frame → World → Prop} {a : Act} {cs : List Frame} {w : World} {id : Nat} {ops : Array Oper} (hm : P.follows .mixedOrders = true)
    {L : List (List Nat)} (hL : allOrders .any ops ops.size (Array.replicate ops.size false) = L) (h : ∀ l ∈ L, wpOpsS P ops Q l a cs { w with drawn := w.drawn + 1 }) : (Code.region id ops true).wpS P Q a cs w := by
  intro b k hb hr
  have hl := mem_allOrders .any ops ops.size (w.tape w.drawn (.order b.fn id)) (Array.replicate ops.size false)
  rw [hL] at hl
  obtain ⟨e, a', cs', w', q, r⟩ := wp_opsS _ a cs _ (h _ hl) b k hb hr
  refine ⟨e, a', cs', w', q, .of_steps (.one ?_) r⟩
  rw [step_region_draw]
  simp only [Region.schedule, hm, Bool.true_or, if_true]
  rfl
theorem wp_act {P : Program} {c : Code} {Q : Exit → Act → World → Prop} {a a' : Act} {w : World} (h : a = a') (k : Code.wp P c Q a' w) : Code.wp P c Q a w := h ▸ k
theorem wp_code {P : Program} {c c' : Code} {Q : Exit → Act → World → Prop} {a : Act} {w : World} (h : c = c') (k : Code.wp P c' Q a w) : Code.wp P c Q a w := h ▸ k
noncomputable def dU_rest : Code := match Tryd.f121.body with | some (.seq _ c) => c | _ => .skip
set_option maxHeartbeats 1000000 in
theorem dU_rest_stop {w w1 : World} {g pr pa pn px : Nat} {v a rv : Value} {X A : Int} (hX : (X != 0) = true) (nx : px ≠ g)
    (hg1 : w1.heap[g]? = some (.cells #[v, a, .int .i64 X] 166 (0, 0))) (hr1 : w1.heap[pr]? = some (.cells #[.pointer (some ⟨g, 0, none⟩)] 164 (0, 0)))
    (ha1 : w1.heap[pa]? = some (.cells #[.int .i64 A] 3 (0, 0))) (hn1 : w1.heap[pn]? = some (.cells #[.int .u64 0] 28 (0, 0))) (hx1 : w1.heap[px]? = some (.cells #[.int .u64 0] 28 (0, 0)))
    (hm1 : Mu (· = g) w w1) :
    Code.wp Tryd.prog dU_rest (fun e a' w' => e = .normal ∧ a'.defers = [] ∧ w'.heap[g]? = some (.cells #[v, .int .i64 A, .int .i64 X] 166 (0, 0)) ∧ w'.heap[px]? = some (.cells #[.int .u64 0] 28 (0, 0)) ∧ Mu (fun k => k = g ∨ k = px) w w')
      { tmps := #[.pointer (some ⟨pr, 0, none⟩), .pointer (some ⟨pa, 0, none⟩), .pointer (some ⟨pn, 0, none⟩), .pointer (some ⟨px, 0, none⟩), rv, .pointer (some ⟨g, 0, none⟩), .pointer (some ⟨g, 0, none⟩), .pointer (some ⟨g, 2, none⟩), .tuple #[], undef, undef, undef, undef, undef, undef, undef, undef, undef, undef], defers := [] } w1 := by
  have cr1 := blk_cell hr1 0
  have ca1 := blk_cell ha1 0
  have cn1 := blk_cell hn1 0
  have cg1 := blk_cell hg1 2
  have cg2 := blk_cell hg1 1
  have cx1 := blk_cell hx1 0
  have fg1 := blk_frozen hg1 1
  have fx1 := blk_frozen hx1 0
  have Hg1 := Aside0.mk hg1
  have Hx1 := Aside0.mk hx1
  have Hm1 := Aside0.mk hm1
  clear hg1 hm1 hr1 ha1 hn1 hx1
  unfold dU_rest Tryd.f121
  go_wp2
  refine ⟨?_, ?_, ?_⟩
  · rw [Below.heap_setCell _ _ _ _ (by exact fun e => nx e.symm)]
    exact set_at Hg1.out
  · exact set_0 ((Below.heap_setCell _ _ _ _ (by exact nx)).trans Hx1.out)
  · exact (((Mu.mono (Hm1.out) (fun k _ h => .inl h) : Mu (fun k => k = g ∨ k = px) w w1)).setCell (p := ⟨g, 1, none⟩) (fun _ => .inl rfl) _).setCell (p := ⟨px, 0, none⟩) (fun _ => .inr rfl) _
set_option maxHeartbeats 1000000 in
theorem dU_stop {w : World} {g pr pa pn px : Nat} {v a e : Value} {X A : Int} {older : List PanicEntry} (hX : (X != 0) = true) (nr : pr ≠ g) (na : pa ≠ g) (nn : pn ≠ g) (nx : px ≠ g)
    (hg : w.heap[g]? = some (.cells #[v, a, e] 166 (0, 0))) (hr : w.heap[pr]? = some (.cells #[.pointer (some ⟨g, 0, none⟩)] 164 (0, 0)))
    (ha : w.heap[pa]? = some (.cells #[.int .i64 A] 3 (0, 0))) (hn : w.heap[pn]? = some (.cells #[.int .u64 0] 28 (0, 0))) (hx : w.heap[px]? = some (.cells #[.int .u64 0] 28 (0, 0))) :
    CallsD Tryd.prog 121 #[.pointer (some ⟨pr, 0, none⟩), .pointer (some ⟨pa, 0, none⟩), .pointer (some ⟨pn, 0, none⟩), .pointer (some ⟨px, 0, none⟩)]
      (.panicking ({ v := .iface 176 (.agg #[.int .i64 X]), recovered := false } :: older)) w fun en u w' =>
      en = .returned (.tuple #[]) ∧ u = .panicking ({ v := .iface 176 (.agg #[.int .i64 X]), recovered := true } :: older) ∧
        w'.heap[g]? = some (.cells #[v, .int .i64 A, .int .i64 X] 166 (0, 0)) ∧ w'.heap[px]? = some (.cells #[.int .u64 0] 28 (0, 0)) ∧ Mu (fun k => k = g ∨ k = px) w w' := by
  refine callsD_of_wpS Tryd.func121 rfl fun c₀ cs hu => ?_
  have cr := blk_cell hr 0
  apply wpS_seq
  refine wpS_region_draw (by kernel_rfl) (L := [[0, 1, 2, 3, 4], [1, 0, 2, 3, 4], [1, 2, 0, 3, 4], [1, 2, 3, 0, 4]]) (by kernel_rfl) ?_
  intro l hl
  simp only [List.mem_cons, List.not_mem_nil, or_false] at hl
  have hg' : w.drew.heap[g]? = some (.cells #[v, a, e] 166 (0, 0)) := hg
  have fin : ∀ (en : Exit) (a' : Act) (w' : World), (en = .normal ∧ a'.defers = [] ∧ w'.heap[g]? = some (.cells #[v, .int .i64 A, .int .i64 X] 166 (0, 0)) ∧ w'.heap[px]? = some (.cells #[.int .u64 0] 28 (0, 0)) ∧ Mu (fun k => k = g ∨ k = px) w w') →
      bodyPostS Tryd.prog Tryd.f121 c₀ cs (fun en u w' => en = .returned (.tuple #[]) ∧ u = .panicking ({ v := .iface 176 (.agg #[.int .i64 X]), recovered := true } :: older) ∧
        w'.heap[g]? = some (.cells #[v, .int .i64 A, .int .i64 X] 166 (0, 0)) ∧ w'.heap[px]? = some (.cells #[.int .u64 0] 28 (0, 0)) ∧ Mu (fun k => k = g ∨ k = px) w w') en a'
        ({ c₀ with mode := .panicking ({ v := .iface 176 (.agg #[.int .i64 X]), recovered := true } :: older) } :: cs) w' := by
    rintro en a' w' ⟨rfl, hd, h1, h2, h3⟩
    exact ⟨hd, _, rfl, .tuple #[], results_none rfl _ _ _, rfl, rfl, h1, h2, h3⟩
  rcases hl with rfl | rfl | rfl | rfl
  all_goals
    simp [wpOpsS, go_sem, recoverD, hu, Tryd.ntmps121, cr]
    refine (caught_stop hg').mono ?_
    rintro en w1 ⟨rfl, hg1, hm1⟩
    refine wpS_of_wp ?_
    refine wp_act (a' := { tmps := #[.pointer (some ⟨pr, 0, none⟩), .pointer (some ⟨pa, 0, none⟩), .pointer (some ⟨pn, 0, none⟩), .pointer (some ⟨px, 0, none⟩), .iface 176 (.agg #[.int .i64 X]), .pointer (some ⟨g, 0, none⟩), .pointer (some ⟨g, 0, none⟩), .pointer (some ⟨g, 2, none⟩), .tuple #[], undef, undef, undef, undef, undef, undef, undef, undef, undef, undef], defers := [] }) (by kernel_rfl) ?_
    refine wp_code (c' := dU_rest) (by kernel_rfl) ?_
    exact Code.wp_mono fin (dU_rest_stop hX nx hg1 (hm1.heap (show w.drew.heap[pr]? = _ from hr) nr) (hm1.heap (show w.drew.heap[pa]? = _ from ha) na) (hm1.heap (show w.drew.heap[pn]? = _ from hn) nn) (hm1.heap (show w.drew.heap[px]? = _ from hx) nx) (Mu.trans ((Mu.refl _ _).drew) hm1))
set_option maxHeartbeats 1000000 in
theorem dU_rest_idle {w1 : World} {g pr : Nat} {v a p1 p2 p3 rv : Value}
    (hg1 : w1.heap[g]? = some (.cells #[v, a, .int .i64 0] 166 (0, 0))) (hr1 : w1.heap[pr]? = some (.cells #[.pointer (some ⟨g, 0, none⟩)] 164 (0, 0))) :
    Code.wp Tryd.prog dU_rest (fun e a' w' => e = .normal ∧ a'.defers = [] ∧ w' = w1)
      { tmps := #[.pointer (some ⟨pr, 0, none⟩), p1, p2, p3, rv, .pointer (some ⟨g, 0, none⟩), .pointer (some ⟨g, 0, none⟩), .pointer (some ⟨g, 2, none⟩), .tuple #[], undef, undef, undef, undef, undef, undef, undef, undef, undef, undef], defers := [] } w1 := by
  have cr1 := blk_cell hr1 0
  have cg1 := blk_cell hg1 2
  clear hg1 hr1
  unfold dU_rest Tryd.f121
  go_wp2
set_option maxHeartbeats 1000000 in
theorem dU_idle {w : World} {g pr : Nat} {v a p1 p2 p3 : Value}
    (hg : w.heap[g]? = some (.cells #[v, a, .int .i64 0] 166 (0, 0))) (hr : w.heap[pr]? = some (.cells #[.pointer (some ⟨g, 0, none⟩)] 164 (0, 0))) :
    CallsD Tryd.prog 121 #[.pointer (some ⟨pr, 0, none⟩), p1, p2, p3] .returning w fun en u w' =>
      en = .returned (.tuple #[]) ∧ u = .returning ∧ w' = w.drew := by
  refine callsD_of_wpS Tryd.func121 rfl fun c₀ cs hu => ?_
  have cr := blk_cell hr 0
  apply wpS_seq
  refine wpS_region_draw (by kernel_rfl) (L := [[0, 1, 2, 3, 4], [1, 0, 2, 3, 4], [1, 2, 0, 3, 4], [1, 2, 3, 0, 4]]) (by kernel_rfl) ?_
  intro l hl
  simp only [List.mem_cons, List.not_mem_nil, or_false] at hl
  have fin : ∀ (en : Exit) (a' : Act) (w' : World), (en = .normal ∧ a'.defers = [] ∧ w' = w.drew) →
      bodyPostS Tryd.prog Tryd.f121 c₀ cs (fun en u w' => en = .returned (.tuple #[]) ∧ u = .returning ∧ w' = w.drew) en a' (c₀ :: cs) w' := by
    rintro en a' w' ⟨rfl, hd, rfl⟩
    exact ⟨hd, .returning, by rw [← hu], .tuple #[], results_none rfl _ _ _, rfl, rfl, rfl⟩
  rcases hl with rfl | rfl | rfl | rfl
  all_goals
    simp [wpOpsS, go_sem, recoverD, hu, Tryd.ntmps121, cr]
    refine caught_nil.mono ?_
    rintro en w1 ⟨rfl, rfl⟩
    refine wpS_of_wp ?_
    refine wp_act (a' := { tmps := #[.pointer (some ⟨pr, 0, none⟩), p1, p2, p3, .nilIface, .pointer (some ⟨g, 0, none⟩), .pointer (some ⟨g, 0, none⟩), .pointer (some ⟨g, 2, none⟩), .tuple #[], undef, undef, undef, undef, undef, undef, undef, undef, undef, undef], defers := [] }) (by kernel_rfl) ?_
    refine wp_code (c' := dU_rest) (by kernel_rfl) ?_
    exact Code.wp_mono fin (dU_rest_idle hg hr)
end Go.Proofs.YtlgfmmkabnbllaaDoor.Hand
namespace Go.Proofs.YtlgfmmkabnbllaaDoor.Hand
open Go.RowKit Go.Proofs.YtlgfmmkabnbllaaDoorW.PrintWords Go.Proofs.YtlgfmmkabnbllaaDoorW.PrintLast
def RdPost (Res : Nat → World → Value → Prop) (b : Nat) (F : Nat → Prop) (g : Nat) (l : List Int) (e : Int) (w : World) : Except Int Int → Ending → World → Prop
  | .ok at', en, w' => (∃ v, en = .returned v ∧ Res b w' v) ∧ IsRd w' F g l at' e ∧ 0 ≤ at' ∧ at' ≤ l.length ∧ Mu (· = g) w w'
  | .error x, en, w' => en = .panicked (stopV x) ∧ (∃ at', IsRd w' F g l at' e) ∧ Mu (· = g) w w'
def TrPost (Res : Nat → World → Value → Prop) (b : Nat) (F : Nat → Prop) (g : Nat) (l : List Int) (at_ e : Int) (zero : Value) (w : World) (R : Except Int Int) (en : Ending) (w' : World) : Prop :=
  Mu (· = g) w w' ∧ ((e ≠ 0 ∧ en = .returned zero ∧ IsRd w' F g l at_ e) ∨ (e = 0 ∧ ∃ at', R = .ok at' ∧ (∃ v, en = .returned v ∧ Res b w' v) ∧ IsRd w' F g l at' 0 ∧ 0 ≤ at' ∧ at' ≤ l.length) ∨
    (e = 0 ∧ ∃ x, R = .error x ∧ en = .returned zero ∧ IsRd w' F g l at_ x))
structure Stays (Res : Nat → World → Value → Prop) : Prop where
  mu : ∀ {b w1 w2 v}, Res b w1 v → Mu (fun k => k < b) w1 w2 → Res b w2 v
  lower : ∀ {b b' w v}, Res b w v → b' ≤ b → Res b' w v
theorem Mu.trans' {S T : Nat → Prop} {a b c : World} (h : Mu S a b) (k : Mu T b c) (hT : ∀ i, i < a.heap.size → T i → S i) : Mu S a c :=
  ⟨k.os.trans h.os, k.tape.trans h.tape, k.output.trans h.output, Nat.le_trans h.size k.size, fun i hi hs => (k.block i (Nat.lt_of_lt_of_le hi h.size) (fun ht => hs (hT i hi ht))).trans (h.block i hi hs)⟩
theorem alloc_new (w : World) (o : Obj) : (w.alloc o).heap[w.heap.size]? = some o := by
  show (w.heap.push o)[w.heap.size]? = some o
  simp
theorem alloc_old {w : World} {o O : Obj} {k : Nat} (h : w.heap[k]? = some o) : (w.alloc O).heap[k]? = some o := alloc_blk h
theorem four_new (w : World) (o0 o1 o2 o3 : Obj) : ∃ W, (((w.alloc o0).alloc o1).alloc o2).alloc o3 = W ∧ W.heap[w.heap.size]? = some o0 ∧ W.heap[w.heap.size + 1]? = some o1 ∧ W.heap[w.heap.size + 1 + 1]? = some o2 ∧ W.heap[w.heap.size + 1 + 1 + 1]? = some o3 ∧
    W.heap.size = w.heap.size + 4 ∧ Below w.heap.size w W := by
  have s1 : (w.alloc o0).heap.size = w.heap.size + 1 := by simp
  have s2 : ((w.alloc o0).alloc o1).heap.size = w.heap.size + 1 + 1 := by simp
  have s3 : (((w.alloc o0).alloc o1).alloc o2).heap.size = w.heap.size + 1 + 1 + 1 := by simp
  refine ⟨_, rfl, ?_, ?_, ?_, ?_, by simp, ?_⟩
  · exact alloc_old (alloc_old (alloc_old (alloc_new _ _)))
  · have := alloc_new (w.alloc o0) o1
    rw [s1] at this
    exact alloc_old (alloc_old this)
  · have := alloc_new ((w.alloc o0).alloc o1) o2
    rw [s2] at this
    exact alloc_old this
  · have := alloc_new (((w.alloc o0).alloc o1).alloc o2) o3
    rw [s3] at this
    exact this
  · exact below_alloc (below_alloc (below_alloc (below_alloc (Below.refl _ _) _) _) _) _
theorem IsRd.blk {w : World} {F : Nat → Prop} {g : Nat} {l : List Int} {at_ e : Int} (h : IsRd w F g l at_ e) : ∃ v, w.heap[g]? = some (.cells #[v, .int .i64 at_, .int .i64 e] 166 (0, 0)) := by
  obtain ⟨A, c, i1, i2, i3, i4, i5⟩ := h
  exact ⟨_, i2⟩
set_option maxHeartbeats 2000000 in
theorem triesdU {Res : Nat → World → Value → Prop} (hS : Stays Res) (hsh : ∀ b w v, Res b w v → ∃ n, v = .int .u64 n) {f : FuncId} {first cap args : Array Value} (hargs : first ++ cap = args)
    (hcf : ∀ w : World, (callFunc f args).run Tryd.prog w = .ok (.enter f args) w)
    {w : World} {F : Nat → Prop} {g : Nat} {l : List Int} {at_ e : Int} (R : Except Int Int) (hX : ∀ x, R = .error x → (x != 0) = true) (hI : IsRd w F g l at_ e) (hF : ∀ k, F k → k < w.heap.size)
    (hread : e = 0 → ∀ w1, Below w.heap.size w w1 → Calls Tryd.prog f args w1 (RdPost Res w1.heap.size F g l 0 w1 R)) :
    Calls Tryd.prog 115 #[.pointer (some ⟨g, 0, none⟩), .func (.func f) first cap] w (TrPost Res w.heap.size F g l at_ e (.int .u64 0) w R) := by
  have HI := Aside0.mk hI
  have HX := Aside0.mk hX
  have HF := Aside0.mk hF
  have HR := Aside0.mk hread
  have HS := Aside0.mk hS
  have Hsh := Aside0.mk hsh
  obtain ⟨A, c, i1, i2, i3, i4, i5⟩ := hI
  have I2 := Aside0.mk i2
  have c1 := blk_cell i2 1
  have c2 := blk_cell i2 2
  have hglt := heap_lt i2
  have hsz0 : w.heap.size ≠ g := by omega
  have hsz1 : w.heap.size + 1 ≠ g := by omega
  have hsz2 : w.heap.size + 1 + 1 ≠ g := by omega
  have hsz3 : w.heap.size + 1 + 1 + 1 ≠ g := by omega
  clear hX hF hread hS hsh i1 i2 i3 i4 i5
  have hmf : ∀ (fn : Fn) (first cap : Array Value) (w : World), (Instr.makeFunc fn first cap).run Tryd.prog w = .ok (.func fn first cap) w := fun _ _ _ _ => rfl
  by_cases he : e = 0
  · subst he
    obtain ⟨W, hW, b0, b1, b2, b3, hWs, hWb⟩ := four_new w (.cells #[.pointer (some ⟨g, 0, none⟩)] 164) (.cells #[.int .u64 0] 28) (.cells #[.int .i64 at_] 3) (.cells #[.int .u64 0] 28)
    have HW := Aside0.mk hW
    have B0 := Aside0.mk b0
    have B1 := Aside0.mk b1
    have B2 := Aside0.mk b2
    have B3 := Aside0.mk b3
    have HWs := Aside0.mk hWs
    have HWb := Aside0.mk hWb
    clear hW b0 b1 b2 b3 hWs hWb
    go_enter_defers Tryd.func115, Tryd.ntmps115
    go_wp2_with fail
    rw [HW.out]
    refine (HR.out trivial W HWb.out).mono ?_
    have hIW : IsRd W F g l at_ 0 := HI.out.mu (Mu.of_below HWb.out (fun _ => False)) (fun _ _ h => h)
    cases R with
    | ok p =>
      rintro en w2 ⟨⟨v, rfl, hres⟩, hI2, h0, h1, hm⟩
      obtain ⟨n, rfl⟩ := Hsh.out _ _ _ hres
      have b1 := hm.heap B1.out hsz1
      have b0 := hm.heap B0.out hsz0
      have c3 := blk_cell b1 0
      have f3 := blk_frozen b1 0
      have HM := Aside0.mk hm
      have HI2 := Aside0.mk hI2
      have HRes := Aside0.mk hres
      have B1' := Aside0.mk b1
      have B0' := Aside0.mk b0
      clear hm hI2 hres b1 b0
      go_wp2
      obtain ⟨v2, hb2⟩ := HI2.out.blk
      refine leaves_cons (f := 121) (args := #[.pointer (some ⟨w.heap.size, 0, none⟩), .pointer (some ⟨w.heap.size + 1 + 1, 0, none⟩), .pointer (some ⟨w.heap.size + 1 + 1 + 1, 0, none⟩), .pointer (some ⟨w.heap.size + 1, 0, none⟩)]) (by simp) (by simp [go_sem]) ?_
      refine (dU_idle (g := g) (v := v2) (a := .int .i64 p) ?_ ?_).mono ?_
      · exact (Below.heap_setCell _ _ _ _ (by exact fun e => hsz1 e.symm)).trans hb2
      · exact (Below.heap_setCell _ _ _ _ (by show w.heap.size ≠ w.heap.size + 1; omega)).trans B0'.out
      rintro en u w3 ⟨rfl, rfl, rfl⟩
      have hx := set_0 (x := .int .u64 n) B1'.out
      have cx := blk_cell hx 0
      have hm3 : ∀ S : Nat → Prop, S (w.heap.size + 1) → Mu S w2 ((w2.setCell ⟨w.heap.size + 1, 0, none⟩ (.int .u64 n)).drew) := fun S hS => ((Mu.refl S w2).setCell (p := ⟨w.heap.size + 1, 0, none⟩) (fun _ => hS) _).drew
      refine ⟨.int .u64 n, ?_, ?_, .inr (.inl ⟨rfl, p, rfl, ⟨_, rfl, ?_⟩, ?_, h0, h1⟩)⟩
      · simp [results, Tryd.results115, go_sem, cx]
      · exact (((Mu.of_below HWb.out (· = g)).trans HM.out).setCell (p := ⟨w.heap.size + 1, 0, none⟩) (fun h => absurd h (by show ¬ w.heap.size + 1 < w.heap.size; omega)) _).drew
      · exact HS.out.lower (HS.out.mu HRes.out (hm3 _ (by rw [HWs.out]; omega))) (by rw [HWs.out]; omega)
      · exact HI2.out.mu (hm3 (· = w.heap.size + 1) rfl) (fun k hk e => by have := HF.out k hk; omega)
    | error x =>
      rintro en w2 ⟨rfl, ⟨at', hI2⟩, hm⟩
      obtain ⟨v2, hb2⟩ := hI2.blk
      have hX := HX.out x rfl
      have hd := dU_stop (older := []) hX hsz0 hsz2 hsz3 hsz1 hb2 (hm.heap B0.out hsz0) (hm.heap B2.out hsz2) (hm.heap B3.out hsz3) (hm.heap B1.out hsz1)
      refine leaves_cons (f := 121) (args := #[.pointer (some ⟨w.heap.size, 0, none⟩), .pointer (some ⟨w.heap.size + 1 + 1, 0, none⟩), .pointer (some ⟨w.heap.size + 1 + 1 + 1, 0, none⟩), .pointer (some ⟨w.heap.size + 1, 0, none⟩)]) (by simp) (by simp [go_sem]) ?_
      refine hd.mono ?_
      rintro en u w3 ⟨rfl, rfl, g1, x1, m1⟩
      have cx := blk_cell x1 0
      refine ⟨.int .u64 0, ?_, ?_, .inr (.inr ⟨rfl, x, rfl, rfl, ?_⟩)⟩
      · simp [results, Tryd.results115, go_sem, cx]
      · refine ((Mu.of_below HWb.out (· = g)).trans hm).trans' m1 ?_
        rintro k hk (h | h)
        · exact h
        · omega
      · obtain ⟨A', c', j1, j2, j3, j4, j5⟩ := hI2
        rw [hb2] at j2
        obtain rfl : v2 = .slice A' l.length c' := by
          injection j2 with j2
          injection j2 with j2
          simpa using j2
        exact ⟨A', c', j1, g1, j3, C_mu m1 j4 (fun ad ea hn => by
          rintro (h | h)
          · exact (j5 ad ea hn).2 h
          · have := HF.out _ (j5 ad ea hn).1; omega), j5⟩
  · have he' : (e != 0) = true := by rw [bne_iff_ne]; exact he
    have He := Aside0.mk he
    clear he
    go_enter_defers Tryd.func115, Tryd.ntmps115
    go_wp2_with fail
    refine ⟨.int .u64 0, ?_, ?_⟩
    · simp [results, Tryd.results115, go_sem]
    · have hb : Below w.heap.size w ((w.alloc (Obj.cells #[Value.pointer (some ⟨g, 0, none⟩)] 164)).alloc (Obj.cells #[Value.int .u64 0] 28)) := below_alloc (below_alloc (Below.refl _ _) _) _
      exact ⟨Mu.of_below hb _, .inl ⟨He.out, rfl, HI.out.mu (Mu.of_below hb (fun _ => False)) (fun _ _ h => h)⟩⟩
end Go.Proofs.YtlgfmmkabnbllaaDoor.Hand
namespace Go.Proofs.YtlgfmmkabnbllaaDoor.Hand
open Go.RowKit Go.Proofs.YtlgfmmkabnbllaaDoorW.PrintWords Go.Proofs.YtlgfmmkabnbllaaDoorW.PrintLast
theorem numL_nz (l : List Int) : ∀ (k i : Nat) (n p : Int) (x : Int), numL l k i n p = .error x → (x != 0) = true
  | 0, i, n, p, x, h => by
    simp only [numL] at h
    injection h with h
    subst h
    rfl
  | k + 1, i, n, p, x, h => by
    simp only [numL] at h
    split at h
    · injection h with h; subst h; rfl
    · split at h
      · injection h with h; subst h; rfl
      · split at h
        · cases h
        · exact numL_nz l k _ _ _ x h
def NumV (n : Int) (_ : Nat) (_ : World) (v : Value) : Prop := v = .int .u64 n
theorem numV_stays (n : Int) : Stays (NumV n) where
  mu := fun h _ => h
  lower := fun h _ => h
def posOf : Except Int (Int × Int) → Except Int Int
  | .ok (_, p) => .ok p
  | .error x => .error x
def valOf : Except Int (Int × Int) → Int
  | .ok (n, _) => n
  | .error _ => 0
theorem rd_of_num {F : Nat → Prop} {g : Nat} {l : List Int} {e : Int} {w : World} {R : Except Int (Int × Int)} {b : Nat} {en : Ending} {w' : World} (h : NumPost F g l e w (Value.int .u64) R en w') :
    RdPost (NumV (valOf R)) b F g l e w (posOf R) en w' := by
  cases R with
  | error x => exact h
  | ok np =>
    obtain ⟨h1, h2, h3, h4, h5⟩ := h
    exact ⟨⟨_, h1, rfl⟩, h2, h4, h3, h5⟩
theorem posOf_nz {R : Except Int (Int × Int)} (h : ∀ x, R = .error x → (x != 0) = true) : ∀ x, posOf R = .error x → (x != 0) = true := by
  intro x hx
  cases R with
  | error y => exact h x (by simpa [posOf] using hx)
  | ok np => cases hx
def numOut : Except Int (Int × Int) → Int × Int × Int
  | .ok (n, p) => (n, p, 0)
  | .error x => (0, 0, x)
def getV (l : List Int) (at_ : Int) : Int × Int × Int := if at_ < 0 then (0, 0, 1) else if l.length < at_ then (0, 0, 1) else numOut (numL l 10 0 0 at_)
def wire_Get.f (l0 : List Int) (a1 : Int) : Option (Int × Int × Int) := some (getV l0 a1)
set_option maxHeartbeats 2000000 in
theorem wire_Get.calls (A0 : Option Addr) (c0 : Nat) (l0 : List Int) (a1 : Int) (r1 : Int) (r2 : Int) (r3 : Int) (w : World) (hr0 : Kd.C (Kd.int .u8) w A0 l0.length l0) (hc0 : l0.length ≤ c0) (h : wire_Get.f l0 a1 = some (r1, r2, r3)) :
    Calls Tryd.prog 112 #[.slice A0 l0.length c0, .int .i64 a1] w fun e w' => e = .returned (.tuple #[.int .u64 r1, .int .i64 r2, .int .i64 r3]) ∧ Below w.heap.size w w' := by
  have hv : getV l0 a1 = (r1, r2, r3) := Option.some.inj h; clear h; have hlen := hr0.2.1; have HR := Aside0.mk hr0; have HV := Aside0.mk hv; clear hr0 hv
  by_cases h1 : a1 < 0
  · have hv : (r1, r2, r3) = (0, 0, 1) := by rw [← HV.out]; exact if_pos h1
    (obtain ⟨rfl, rfl, rfl⟩ : r1 = 0 ∧ r2 = 0 ∧ r3 = 1 := by simpa using hv); clear hv HV; have e1 : decide (a1 < 0) = true := decide_eq_true h1
    go_enter Tryd.func112, Tryd.ntmps112
    go_wp2
    go_ret3
    exact ⟨rfl, Below.refl _ _⟩
  by_cases h2 : (l0.length : Int) < a1
  · have hv : (r1, r2, r3) = (0, 0, 1) := by rw [← HV.out]; unfold getV; rw [if_neg h1, if_pos h2]
    (obtain ⟨rfl, rfl, rfl⟩ : r1 = 0 ∧ r2 = 0 ∧ r3 = 1 := by simpa using hv); clear hv HV; have e1 : decide (a1 < 0) = false := decide_eq_false h1; have e2 : decide ((l0.length : Int) < a1) = true := decide_eq_true h2
    go_enter Tryd.func112, Tryd.ntmps112
    go_wp2
    go_ret3
    exact ⟨rfl, Below.refl _ _⟩
  have e1 : decide (a1 < 0) = false := decide_eq_false h1; have e2 : decide ((l0.length : Int) < a1) = false := decide_eq_false h2; (have b1 : 0 ≤ a1 := by omega); (have b2 : a1 ≤ l0.length := by omega); (obtain ⟨R, hR⟩ : ∃ R, numL l0 10 0 0 a1 = R := ⟨_, rfl⟩)
  have hv : (r1, r2, r3) = numOut R := by
    rw [← HV.out]; unfold getV; rw [if_neg h1, if_neg h2, hR]
  have HVV := Aside0.mk hv; have HRR := Aside0.mk hR; clear h1 h2 hv hR HV; (have hmf : ∀ (fn : Fn) (first cap : Array Value) (w : World), (Instr.makeFunc fn first cap).run Tryd.prog w = .ok (.func fn first cap) w := fun _ _ _ _ => rfl)
  obtain ⟨W, hW, hg, hWs, hWb⟩ : ∃ W, w.alloc (.cells #[.slice A0 l0.length c0, .int .i64 a1, .int .i64 0] 166) = W ∧ W.heap[w.heap.size]? = some (.cells #[.slice A0 l0.length c0, .int .i64 a1, .int .i64 0] 166 (0, 0)) ∧ W.heap.size = w.heap.size + 1 ∧ Below w.heap.size w W :=
    ⟨_, rfl, alloc_new _ _, by simp, below_alloc (Below.refl _ _) _⟩
  have hI : IsRd W (fun k => k = w.heap.size ∨ (k < w.heap.size)) w.heap.size l0 a1 0 := by
    refine ⟨A0, c0, .inl rfl, hg, hc0, Kd.C_below HR.out hWb, fun ad ea hn => ?_⟩; obtain ⟨ad', e, hc⟩ := HR.out.2.2 hn; (rw [ea] at e); obtain rfl := Option.some.inj e; obtain ⟨c, hcl, hk, hcell⟩ := hc 0 l0[0] (by simp [hn]); have hk' : c = [.int .u8 l0[0]] := hk; subst hk'; have := World.block_lt_of_cell? _ _ (hcell 0 _ rfl); (rw [add_block] at this); exact ⟨.inr this, by omega⟩
  have HI := Aside0.mk hI; have HW := Aside0.mk hW; have HWs := Aside0.mk hWs; have HWb := Aside0.mk hWb; clear hW hWs hWb hg hI
  go_enter Tryd.func112, Tryd.ntmps112
  go_wp2_with fail
  rw [HW.out]
  refine (triesdU (numV_stays (valOf R)) (fun b w v h => ⟨_, h⟩) (f := 116) (first := #[.pointer (some ⟨w.heap.size, 0, none⟩)]) (cap := #[]) (args := #[.pointer (some ⟨w.heap.size, 0, none⟩)]) rfl (fun w => by kernel_rfl) (posOf R) (posOf_nz (fun x hx => numL_nz l0 _ _ _ _ x (HRR.out.trans hx))) HI.out (by intro k hk; rw [HWs.out]; omega)
    (fun _ w1 hb1 => (num_as HRR.out (HI.out.mu (Mu.of_below hb1 (fun _ => False)) (fun _ _ h => h)) b1 b2).mono (fun en w' h => rd_of_num h))).mono ?_
  rintro en w2 ⟨hm, hcase⟩; have hb2 : Below w.heap.size w w2 := Mu.below_of HWb.out hm (by intro k hk; omega); have HB2 := Aside0.mk hb2; clear hb2 hm
  cases R with
  | ok np =>
    obtain ⟨n, p⟩ := np; (obtain ⟨rfl, rfl, rfl⟩ : r1 = n ∧ r2 = p ∧ r3 = 0 := by simpa [numOut] using HVV.out)
    rcases hcase with ⟨h, _⟩ | ⟨_, p', hp', ⟨v, rfl, hres⟩, hI2, _⟩ | ⟨_, x, hx, _⟩
    · exact absurd rfl h
    · obtain rfl : r2 = p' := by simpa [posOf] using hp'
      obtain rfl : v = .int .u64 r1 := hres; obtain ⟨v2, hb⟩ := hI2.blk; have d2 := blk_cell hb 2; have d1 := blk_cell hb 1; clear hI2 hb hp'
      go_wp2_with fail
      go_quiet (fail)
      go_wp2_with fail
      go_ret3
      exact ⟨rfl, pw_below_drewN HB2.out _⟩
    · cases hx
  | error x =>
    (obtain ⟨rfl, rfl, rfl⟩ : r1 = 0 ∧ r2 = 0 ∧ r3 = x := by simpa [numOut] using HVV.out); have hx0 : (r3 != 0) = true := numL_nz l0 _ _ _ _ _ HRR.out
    rcases hcase with ⟨h, _⟩ | ⟨_, p', hp', _⟩ | ⟨_, y, hy, rfl, hI2⟩
    · exact absurd rfl h
    · cases hp'
    · obtain rfl : r3 = y := by simpa [posOf] using hy
      obtain ⟨v2, hb⟩ := hI2.blk; have d2 := blk_cell hb 2; clear hI2 hb hy
      go_wp2_with fail
      go_quiet (fail)
      go_wp2_with fail
      go_ret3
      exact ⟨rfl, pw_below_drewN HB2.out _⟩
end Go.Proofs.YtlgfmmkabnbllaaDoor.Hand
namespace Go.Proofs.YtlgfmmkabnbllaaDoor.PA
open Go.RowKit Go.Proofs.YtlgfmmkabnbllaaDoorW.PrintWords Go.Proofs.YtlgfmmkabnbllaaDoorW.PrintLast Go.Proofs.YtlgfmmkabnbllaaDoorW.PrintMore
attribute [local go_sem] max2_int min2_int max_two min_two max_three min_three max_four min_four
open Go.Proofs.YtlgfmmkabnbllaaDoor.Hand
set_option linter.unusedVariables false
set_option linter.unusedSimpArgs false
def errW : Option Int → Value
  | none => .nilIface
  | some c => .iface 0 (.int .i64 c)
theorem errW_none : errW none = .nilIface := rfl
theorem errW_some (c : Int) : errW (some c) = .iface 0 (.int .i64 c) := rfl
theorem info5 : (Tryd.prog.info? 5).map (fun i => (i.zero, i.size, i.bytes)) = some (some (.int .u8 0), 1, 1) := by kernel_rfl
end Go.Proofs.YtlgfmmkabnbllaaDoor.PA
namespace Go.Proofs.YtlgfmmkabnbllaaDoor.PA
open Go.RowKit Go.Proofs.YtlgfmmkabnbllaaDoorW.PrintWords Go.Proofs.YtlgfmmkabnbllaaDoorW.PrintLast Go.Proofs.YtlgfmmkabnbllaaDoorW.PrintMore
attribute [local go_sem] max2_int min2_int max_two min_two max_three min_three max_four min_four
open Go.Proofs.YtlgfmmkabnbllaaDoor.Hand
set_option linter.unusedVariables false
set_option linter.unusedSimpArgs false
mutual
def wire_Crc.l0 : Nat → Int → List Int → Int → Int → Option (Int)
  | 0, _, _, _, _ => none
  | k + 1, x3, x7, x8, x9 => if x9 < x8 then (if 0 ≤ x9 then (if x9 < (x7.length : Int) then (wire_Crc.l1 k (Go.bits .xor .u32 x3 ((rd x7 x9) % 4294967296)) x7 x8 x9 0) else (none)) else (none)) else (some (Go.bits .xor .u32 x3 4294967295))
def wire_Crc.l1 : Nat → Int → List Int → Int → Int → Int → Option (Int)
  | 0, _, _, _, _, _ => none
  | k + 1, x3, x7, x8, x9, x17 => if x17 < 8 then (wire_Crc.l1 k (Go.bits .xor .u32 (x3 / 2) ((3988292384 * (Go.bits .and .u32 x3 1)) % 4294967296)) x7 x8 x9 (wrap64 (x17 + 1))) else (wire_Crc.l0 k x3 x7 x8 (wrap64 (x9 + 1)))
end
def wire_Crc.f (k : Nat) (l0 : List Int) : Option (Int) := wire_Crc.l0 k 4294967295 l0 (l0.length : Int) 0
set_option maxHeartbeats 8000000 in
set_option maxRecDepth 100000 in
theorem wire_Crc.calls (k : Nat) (A0 : Option Addr) (c0 : Nat) (l0 : List Int) (r : Int) (w : World) (hr0 : Kd.C (Kd.int .u8) w A0 l0.length l0) (hc0 : l0.length ≤ c0) (h : wire_Crc.f k l0 = some r) :
    Calls Tryd.prog 65 #[.slice A0 l0.length c0] w fun e w' => e = .returned (.int .u32 r) ∧ Drawn0 w w' := by
  have HR0 := Aside0.mk hr0; have HC0 := Aside0.mk hc0; clear hr0 hc0; have H : (wire_Crc.l0 k 4294967295 l0 (l0.length : Int) 0) = some r := h; clear h; have H' := Aside0.mk H; clear H
  go_enter Tryd.func65, Tryd.ntmps65
  go_wp2
  go_loopg [3, 9] k (fun kq v3 v9 w' => ∃ (x3_1 : Int) (x9_1 : Int), v3 = .int .u32 x3_1 ∧ v9 = .int .i64 x9_1 ∧ Aside0 (wire_Crc.l0 kq x3_1 l0 (l0.length : Int) x9_1 = some r) ∧ Aside0 (kq ≤ k) ∧ Drawn0 w w')
  case atStart => exact ⟨(4294967295), (0), (by first | rfl | (simp; done) | (simp [*]; done)), (by first | rfl | (simp; done) | (simp [*]; done)), H', ⟨Nat.le_refl _⟩, by repeat (first | exact Drawn0.refl _ | apply Drawn0.step)⟩
  case round =>
    clear H'; obtain ⟨x3_1, x9_1, rfl, rfl, HA, HK1, ⟨m1, rfl⟩⟩ := hrel
    cases gk with
    | zero => exact absurd HA.out (by simp [wire_Crc.l0])
    | succ k1 =>
      have H := HA.out; clear HA; (simp only [wire_Crc.l0] at H)
      by_cases c2 : x9_1 < (l0.length : Int)
      · rw [if_pos c2] at H
        have c2b0 : decide (x9_1 < (l0.length : Int)) = true := decide_eq_true c2; clear c2
        by_cases c3 : 0 ≤ x9_1
        · rw [if_pos c3] at H
          have c3b0 : decide (0 ≤ x9_1) = true := decide_eq_true c3; clear c3
          by_cases c4 : x9_1 < (l0.length : Int)
          · rw [if_pos c4] at H
            have c4b0 : decide (x9_1 < (l0.length : Int)) = true := decide_eq_true c4; clear c4; have H' := Aside0.mk H; clear H; have p101 : 0 ≤ (x9_1 : Int) := of_decide_eq_true (by first | (with_reducible assumption) | assumption); have q101 : x9_1 < (l0.length : Int) := of_decide_eq_true (by first | (with_reducible assumption) | assumption); obtain ⟨ad101, e101, hx101_0⟩ := Kd.at_int HR0.out x9_1 p101 q101
            cases e101
            replace p101 := eq_true p101; replace q101 := eq_true q101
            go_wp2
            go_loopg [3, 17] k1 (fun kq v3 v17 w' => ∃ (x3_2 : Int) (x17_2 : Int), v3 = .int .u32 x3_2 ∧ v17 = .int .i64 x17_2 ∧ Aside0 (wire_Crc.l1 kq x3_2 l0 (l0.length : Int) x9_1 x17_2 = some r) ∧ Aside0 (kq ≤ k1) ∧ Drawn0 w w')
            case atStart => exact ⟨(Go.bits .xor .u32 x3_1 ((rd l0 x9_1) % 4294967296)), (0), (by first | rfl | (simp; done) | (simp [*]; done)), (by first | rfl | (simp; done) | (simp [*]; done)), H', ⟨Nat.le_refl _⟩, by repeat (first | exact Drawn0.refl _ | apply Drawn0.step)⟩
            case round =>
              clear H'
              try clear p1
              try clear q1
              try clear hx1
              try clear c2
              try clear c2b0
              try clear p2
              try clear c3
              try clear c3b0
              try clear c4
              try clear c4b0
              try clear hx101_0
              try clear p101
              try clear q101
              obtain ⟨x3_2, x17_2, rfl, rfl, HA, HK2, ⟨m2, rfl⟩⟩ := hrel
              cases gk with
              | zero => exact absurd HA.out (by simp [wire_Crc.l1])
              | succ k2 =>
                have H := HA.out; clear HA; (simp only [wire_Crc.l1] at H)
                by_cases c5 : x17_2 < 8
                · rw [if_pos c5] at H
                  have c5b0 : decide (x17_2 < 8) = true := decide_eq_true c5; clear c5; have H' := Aside0.mk H; clear H
                  go_wp2
                  go_roundg k2
                  case measure => have := HK1.out; have := HK2.out; omega
                  case rel => exact ⟨(Go.bits .xor .u32 (x3_2 / 2) ((3988292384 * (Go.bits .and .u32 x3_2 1)) % 4294967296)), (wrap64 (x17_2 + 1)), (by first | rfl | (simp; done) | (simp [*]; done)), (by first | rfl | (simp; done) | (simp [*]; done)), H', ⟨by have := HK1.out; have := HK2.out; omega⟩, by repeat (first | exact Drawn0.refl _ | apply Drawn0.step)⟩
                · rw [if_neg c5] at H
                  have c5b0 : decide (x17_2 < 8) = false := decide_eq_false c5; clear c5; have H' := Aside0.mk H; clear H
                  go_wp2
                  go_roundg k2
                  case measure => have := HK1.out; have := HK2.out; omega
                  case rel => exact ⟨(x3_2), (wrap64 (x9_1 + 1)), (by first | rfl | (simp; done) | (simp [*]; done)), (by first | rfl | (simp; done) | (simp [*]; done)), H', ⟨by have := HK1.out; have := HK2.out; omega⟩, by repeat (first | exact Drawn0.refl _ | apply Drawn0.step)⟩
          · rw [if_neg c4] at H
            exact absurd H (by simp)
        · rw [if_neg c3] at H
          exact absurd H (by simp)
      · rw [if_neg c2] at H
        have c2b0 : decide (x9_1 < (l0.length : Int)) = false := decide_eq_false c2; clear c2; obtain rfl := Option.some.inj H
        go_wp2
        go_ret
        exact ⟨by first | rfl | (simp; done) | (simp [*]; done), by repeat (first | exact Drawn0.refl _ | apply Drawn0.step)⟩
def wire_Four.f (a0 : Int) : Option (List Int) := some (([(a0 / 16777216) % 256, (a0 / 65536) % 256, (a0 / 256) % 256, (a0) % 256] : List Int))
set_option maxHeartbeats 8000000 in
set_option maxRecDepth 100000 in
theorem wire_Four.calls (a0 : Int) (r : List Int) (w : World) (h : wire_Four.f a0 = some r) :
    Calls Tryd.prog 64 #[.int .u32 a0] w fun e w' => ∃ v0_ : Value, e = .returned (v0_) ∧ Kd.R (Kd.int .u8) 5 w' w.heap.size (fun _ => True) v0_ r ∧ Below w.heap.size w w' := by
  have HB := Aside0.mk (Below.refl w.heap.size w); have H : (some (([(a0 / 16777216) % 256, (a0 / 65536) % 256, (a0 / 256) % 256, (a0) % 256] : List Int))) = some r := h; clear h; (obtain ⟨y102, hy102⟩ : ∃ y_ : List Int, y_ = (([(a0 / 16777216) % 256, (a0 / 65536) % 256, (a0 / 256) % 256, (a0) % 256] : List Int)) := ⟨_, rfl⟩); (replace H : (some y102) = some r := by first | (rw [hy102]; with_reducible exact H) | (have H2_ := (Option.bind_some _ _).symm.trans H; rw [hy102]; with_reducible exact H2_) | (have H2_ := (Option.bind_some _ _).symm.trans H; with_reducible exact H2_) | with_reducible exact H | (rw [hy102]; exact H) | exact H); have Ny102 := Aside0.mk hy102; clear hy102; obtain rfl := Option.some.inj H
  go_enter Tryd.func64, Tryd.ntmps64
  go_wp2_with (first | ((with_reducible refine gate_dst (N := 14) rfl ?_); refine Kd.R_lit (Kd.int .u8) _ 5 ?hg (N := 14) ?hd (xs := ([(a0 / 16777216) % 256, (a0 / 65536) % 256, (a0 / 256) % 256, (a0) % 256] : List Int)) (inner := [.int .u8 ((a0 / 16777216) % 256), .int .u8 ((a0 / 65536) % 256), .int .u8 ((a0 / 256) % 256), .int .u8 ((a0) % 256)]) (ok := fun _ => True) (okp := fun _ => True) ?hr ?hp (fun _ hk => hk) trivial (Below.refl _ _) (Nat.le_refl _) (by simp) ?_; (case hd => rfl); (case hg => rfl); (case hr => first | (go_simp; done) | (go_simp; rfl)); (case hp => exact (Reps.one (show Kd.M (Kd.int .u8) _ _ _ ((a0 / 16777216) % 256) [.int .u8 ((a0 / 16777216) % 256)] from rfl) (Reps.one (show Kd.M (Kd.int .u8) _ _ _ ((a0 / 65536) % 256) [.int .u8 ((a0 / 65536) % 256)] from rfl) (Reps.one (show Kd.M (Kd.int .u8) _ _ _ ((a0 / 256) % 256) [.int .u8 ((a0 / 256) % 256)] from rfl) (Reps.one (show Kd.M (Kd.int .u8) _ _ _ ((a0) % 256) [.int .u8 ((a0) % 256)] from rfl) (Reps.none _ _)))))); intro v103 w2 ho3 hb hg_ hnew_; clear hg_ hnew_; (first | rw [← Ny102.out] at ho3 | (simp only [Int.reduceToNat] at ho3; rw [← Ny102.out] at ho3)); have n0_ := Aside0.mk (Kd.R_lower ho3 (below_size (hx_ HB))); have n1_ := Aside0.mk (below_step (hx_ HB) hb); clear HB; have HO104 := n0_; have HB := n1_; clear n0_ n1_; clear hb ho3))
  go_ret
  exact ⟨_, by first | rfl | (simp [errW_none, errW_some] <;> rfl) | (simp [*, errW_none, errW_some] <;> rfl), by (with_reducible repeat first | apply rA_ | apply rN_ | apply rD_); exact HO104.out, by repeat (first | (with_reducible first | exact HB.out | apply yA | apply yN | apply yD) | exact HB.out)⟩
def wire_Var.l0 : Nat → Int → List Int → Option (List Int)
  | 0, _, _ => none
  | k + 1, x0, x3 => if x0 ≥ 128 then (if x3.length < 140737488355328 then (wire_Var.l0 k (x0 / 128) (x3 ++ [Go.bits .or .u8 ((x0) % 256) 128])) else (none)) else (if x3.length < 140737488355328 then (some (x3 ++ [(x0) % 256])) else (none))
def wire_Var.f (k : Nat) (a0 : Int) : Option (List Int) := wire_Var.l0 k a0 ([] : List Int)
def bytes_Equal.f (l0 : List Int) (l1 : List Int) : Option (Bool) := some ((strOfNums l0).toList == (strOfNums l1).toList)
set_option maxHeartbeats 8000000 in
set_option maxRecDepth 100000 in
theorem bytes_Equal.calls (A0 : Option Addr) (c0 : Nat) (l0 : List Int) (A1 : Option Addr) (c1 : Nat) (l1 : List Int) (r : Bool) (w : World) (hr0 : Kd.C (Kd.int .u8) w A0 l0.length l0) (hc0 : l0.length ≤ c0) (hr1 : Kd.C (Kd.int .u8) w A1 l1.length l1) (hc1 : l1.length ≤ c1) (h : bytes_Equal.f l0 l1 = some r) :
    Calls Tryd.prog 78 #[.slice A0 l0.length c0, .slice A1 l1.length c1] w fun e w' => e = .returned (.bool r) ∧ Drawn0 w w' := by
  have HR0 := Aside0.mk hr0; have HC0 := Aside0.mk hc0; clear hr0 hc0; have HR1 := Aside0.mk hr1; have HC1 := Aside0.mk hc1; clear hr1 hc1; have H : (some ((strOfNums l0).toList == (strOfNums l1).toList)) = some r := h; clear h; obtain rfl := Option.some.inj H; have hcv3 := Kd.C_string (P := Tryd.prog) (A := A0) (c := c0) Tryd.underlying64 Tryd.underlying5 Tryd.underlying9 HR0.out; have hcv4 := Kd.C_string (P := Tryd.prog) (A := A1) (c := c1) Tryd.underlying64 Tryd.underlying5 Tryd.underlying9 HR1.out
  go_enter Tryd.func78, Tryd.ntmps78
  go_wp2
  go_ret
  exact ⟨by first | rfl | (simp; done) | (simp [*]; done), by repeat (first | exact Drawn0.refl _ | apply Drawn0.step)⟩
def rec_May.f (a0_0 : Int) (a0_1 : Int) (a0_2 : Int) (l0_3 : List Int) : Option (Bool) := if a0_0 = 1 then (if a0_1 ≥ 1 then (if a0_1 ≤ 4611686018427387904 then (if a0_2 ≤ 4611686018427387904 then (some (decide ((l0_3.length : Int) ≤ 1048576))) else (some false)) else (some false)) else (some false)) else (if a0_0 = 2 then (if a0_1 ≥ 1 then (if a0_1 ≤ 4611686018427387904 then (if a0_2 ≤ 4611686018427387904 then (some (decide ((l0_3.length : Int) ≤ 1048576))) else (some false)) else (some false)) else (some false)) else (some false))
set_option maxHeartbeats 8000000 in
set_option maxRecDepth 100000 in
theorem rec_May.calls (a0_0 : Int) (a0_1 : Int) (a0_2 : Int) (A0_3 : Option Addr) (c0_3 : Nat) (l0_3 : List Int) (r : Bool) (w : World) (hr0_3 : Kd.C (Kd.int .u8) w A0_3 l0_3.length l0_3) (hc0_3 : l0_3.length ≤ c0_3) (h : rec_May.f a0_0 a0_1 a0_2 l0_3 = some r) :
    Calls Tryd.prog 79 #[.agg #[.int .i64 a0_0, .int .u64 a0_1, .int .u64 a0_2, .slice A0_3 l0_3.length c0_3]] w fun e w' => e = .returned (.bool r) ∧ Below w.heap.size w w' := by
  have hu88 := Tryd.underlying88; have HR0_3 := Aside0.mk hr0_3; have HC0_3 := Aside0.mk hc0_3; clear hr0_3 hc0_3; have HB := Aside0.mk (Below.refl w.heap.size w); have H : (if a0_0 = 1 then (if a0_1 ≥ 1 then (if a0_1 ≤ 4611686018427387904 then (if a0_2 ≤ 4611686018427387904 then (some (decide ((l0_3.length : Int) ≤ 1048576))) else (some false)) else (some false)) else (some false)) else (if a0_0 = 2 then (if a0_1 ≥ 1 then (if a0_1 ≤ 4611686018427387904 then (if a0_2 ≤ 4611686018427387904 then (some (decide ((l0_3.length : Int) ≤ 1048576))) else (some false)) else (some false)) else (some false)) else (some false))) = some r := h; clear h
  by_cases c2 : a0_0 = 1
  · rw [if_pos c2] at H
    have c2b0 : (a0_0 == 1) = true := beq_iff_eq.mpr c2; have c2b1 : (a0_0 != 1) = false := bne_eq_false_iff_eq.mpr c2; clear c2
    by_cases c3 : a0_1 ≥ 1
    · rw [if_pos c3] at H
      have c3b0 : decide (1 ≤ a0_1) = true := decide_eq_true c3; clear c3
      by_cases c4 : a0_1 ≤ 4611686018427387904
      · rw [if_pos c4] at H
        have c4b0 : decide (a0_1 ≤ 4611686018427387904) = true := decide_eq_true c4; clear c4
        by_cases c5 : a0_2 ≤ 4611686018427387904
        · rw [if_pos c5] at H
          have c5b0 : decide (a0_2 ≤ 4611686018427387904) = true := decide_eq_true c5; clear c5; obtain rfl := Option.some.inj H
          go_enter Tryd.func79, Tryd.ntmps79
          go_wp2_with (first | ((with_reducible refine gate_dst (N := 1) rfl ?_); (try (refine gate_guard (by rfl) ?_; dsimp only)); refine box_event ?hg (N := 1) ?hd (cs := #[.int .i64 a0_0, .int .u64 a0_1, .int .u64 a0_2, .slice A0_3 l0_3.length c0_3]) (t := 88) ?hr ?_; (case hd => rfl); (case hg => rfl); (case hr => first | (go_simp; done) | (go_simp; rfl)); intro gb111 hg w6 hbox hb; have n0_ := Aside0.mk (below_step (hx_ HB) hb); have n1_ := Aside0.mk (hbox); have n2_ := Aside0.mk ((by rw [hg]; exact (below_size (hx_ HB)) : w.heap.size ≤ gb111)); have n3_ := Aside0.mk ((by rw [hg]; exact (below_size (hx_ HB)) : w.heap.size ≤ gb111)); clear HB; have HB := n0_; have BK111 := n1_; have GW111 := n2_; have GE111 := n3_; clear n0_ n1_ n2_ n3_; clear hb hbox hg; have hcz7_0 : w6.cell? ⟨gb111, 0, none⟩ = some (.int .i64 a0_0) := (blk_cell BK111.out 0).trans rfl; have hcz7_1 : w6.cell? ⟨gb111, 1, none⟩ = some (.int .u64 a0_1) := (blk_cell BK111.out 1).trans rfl; have hcz7_2 : w6.cell? ⟨gb111, 2, none⟩ = some (.int .u64 a0_2) := (blk_cell BK111.out 2).trans rfl; have hcz7_3 : w6.cell? ⟨gb111, 3, none⟩ = some (.slice A0_3 l0_3.length c0_3) := (blk_cell BK111.out 3).trans rfl; have hfz7_0 := blk_frozen BK111.out 0; have hfz7_1 := blk_frozen BK111.out 1; have hfz7_2 := blk_frozen BK111.out 2; have hfz7_3 := blk_frozen BK111.out 3))
          go_ret
          exact ⟨by first | rfl | (simp [errW_none, errW_some] <;> rfl) | (simp [*, errW_none, errW_some] <;> rfl), by repeat (first | (with_reducible first | exact HB.out | apply yA | apply yN | apply yD | refine yS ?_ GE111.out) | exact HB.out)⟩
        · rw [if_neg c5] at H
          have c5b0 : decide (a0_2 ≤ 4611686018427387904) = false := decide_eq_false c5; clear c5; obtain rfl := Option.some.inj H
          go_enter Tryd.func79, Tryd.ntmps79
          go_wp2_with (first | ((with_reducible refine gate_dst (N := 1) rfl ?_); (try (refine gate_guard (by rfl) ?_; dsimp only)); refine box_event ?hg (N := 1) ?hd (cs := #[.int .i64 a0_0, .int .u64 a0_1, .int .u64 a0_2, .slice A0_3 l0_3.length c0_3]) (t := 88) ?hr ?_; (case hd => rfl); (case hg => rfl); (case hr => first | (go_simp; done) | (go_simp; rfl)); intro gb111 hg w8 hbox hb; have n0_ := Aside0.mk (below_step (hx_ HB) hb); have n1_ := Aside0.mk (hbox); have n2_ := Aside0.mk ((by rw [hg]; exact (below_size (hx_ HB)) : w.heap.size ≤ gb111)); have n3_ := Aside0.mk ((by rw [hg]; exact (below_size (hx_ HB)) : w.heap.size ≤ gb111)); clear HB; have HB := n0_; have BK111 := n1_; have GW111 := n2_; have GE111 := n3_; clear n0_ n1_ n2_ n3_; clear hb hbox hg; have hcz9_0 : w8.cell? ⟨gb111, 0, none⟩ = some (.int .i64 a0_0) := (blk_cell BK111.out 0).trans rfl; have hcz9_1 : w8.cell? ⟨gb111, 1, none⟩ = some (.int .u64 a0_1) := (blk_cell BK111.out 1).trans rfl; have hcz9_2 : w8.cell? ⟨gb111, 2, none⟩ = some (.int .u64 a0_2) := (blk_cell BK111.out 2).trans rfl; have hcz9_3 : w8.cell? ⟨gb111, 3, none⟩ = some (.slice A0_3 l0_3.length c0_3) := (blk_cell BK111.out 3).trans rfl; have hfz9_0 := blk_frozen BK111.out 0; have hfz9_1 := blk_frozen BK111.out 1; have hfz9_2 := blk_frozen BK111.out 2; have hfz9_3 := blk_frozen BK111.out 3))
          go_ret
          exact ⟨by first | rfl | (simp [errW_none, errW_some] <;> rfl) | (simp [*, errW_none, errW_some] <;> rfl), by repeat (first | (with_reducible first | exact HB.out | apply yA | apply yN | apply yD | refine yS ?_ GE111.out) | exact HB.out)⟩
      · rw [if_neg c4] at H
        have c4b0 : decide (a0_1 ≤ 4611686018427387904) = false := decide_eq_false c4; clear c4; obtain rfl := Option.some.inj H
        go_enter Tryd.func79, Tryd.ntmps79
        go_wp2_with (first | ((with_reducible refine gate_dst (N := 1) rfl ?_); (try (refine gate_guard (by rfl) ?_; dsimp only)); refine box_event ?hg (N := 1) ?hd (cs := #[.int .i64 a0_0, .int .u64 a0_1, .int .u64 a0_2, .slice A0_3 l0_3.length c0_3]) (t := 88) ?hr ?_; (case hd => rfl); (case hg => rfl); (case hr => first | (go_simp; done) | (go_simp; rfl)); intro gb111 hg w10 hbox hb; have n0_ := Aside0.mk (below_step (hx_ HB) hb); have n1_ := Aside0.mk (hbox); have n2_ := Aside0.mk ((by rw [hg]; exact (below_size (hx_ HB)) : w.heap.size ≤ gb111)); have n3_ := Aside0.mk ((by rw [hg]; exact (below_size (hx_ HB)) : w.heap.size ≤ gb111)); clear HB; have HB := n0_; have BK111 := n1_; have GW111 := n2_; have GE111 := n3_; clear n0_ n1_ n2_ n3_; clear hb hbox hg; have hcz11_0 : w10.cell? ⟨gb111, 0, none⟩ = some (.int .i64 a0_0) := (blk_cell BK111.out 0).trans rfl; have hcz11_1 : w10.cell? ⟨gb111, 1, none⟩ = some (.int .u64 a0_1) := (blk_cell BK111.out 1).trans rfl; have hcz11_2 : w10.cell? ⟨gb111, 2, none⟩ = some (.int .u64 a0_2) := (blk_cell BK111.out 2).trans rfl; have hcz11_3 : w10.cell? ⟨gb111, 3, none⟩ = some (.slice A0_3 l0_3.length c0_3) := (blk_cell BK111.out 3).trans rfl; have hfz11_0 := blk_frozen BK111.out 0; have hfz11_1 := blk_frozen BK111.out 1; have hfz11_2 := blk_frozen BK111.out 2; have hfz11_3 := blk_frozen BK111.out 3))
        go_ret
        exact ⟨by first | rfl | (simp [errW_none, errW_some] <;> rfl) | (simp [*, errW_none, errW_some] <;> rfl), by repeat (first | (with_reducible first | exact HB.out | apply yA | apply yN | apply yD | refine yS ?_ GE111.out) | exact HB.out)⟩
    · rw [if_neg c3] at H
      have c3b0 : decide (1 ≤ a0_1) = false := decide_eq_false c3; clear c3; obtain rfl := Option.some.inj H
      go_enter Tryd.func79, Tryd.ntmps79
      go_wp2_with (first | ((with_reducible refine gate_dst (N := 1) rfl ?_); (try (refine gate_guard (by rfl) ?_; dsimp only)); refine box_event ?hg (N := 1) ?hd (cs := #[.int .i64 a0_0, .int .u64 a0_1, .int .u64 a0_2, .slice A0_3 l0_3.length c0_3]) (t := 88) ?hr ?_; (case hd => rfl); (case hg => rfl); (case hr => first | (go_simp; done) | (go_simp; rfl)); intro gb111 hg w12 hbox hb; have n0_ := Aside0.mk (below_step (hx_ HB) hb); have n1_ := Aside0.mk (hbox); have n2_ := Aside0.mk ((by rw [hg]; exact (below_size (hx_ HB)) : w.heap.size ≤ gb111)); have n3_ := Aside0.mk ((by rw [hg]; exact (below_size (hx_ HB)) : w.heap.size ≤ gb111)); clear HB; have HB := n0_; have BK111 := n1_; have GW111 := n2_; have GE111 := n3_; clear n0_ n1_ n2_ n3_; clear hb hbox hg; have hcz13_0 : w12.cell? ⟨gb111, 0, none⟩ = some (.int .i64 a0_0) := (blk_cell BK111.out 0).trans rfl; have hcz13_1 : w12.cell? ⟨gb111, 1, none⟩ = some (.int .u64 a0_1) := (blk_cell BK111.out 1).trans rfl; have hcz13_2 : w12.cell? ⟨gb111, 2, none⟩ = some (.int .u64 a0_2) := (blk_cell BK111.out 2).trans rfl; have hcz13_3 : w12.cell? ⟨gb111, 3, none⟩ = some (.slice A0_3 l0_3.length c0_3) := (blk_cell BK111.out 3).trans rfl; have hfz13_0 := blk_frozen BK111.out 0; have hfz13_1 := blk_frozen BK111.out 1; have hfz13_2 := blk_frozen BK111.out 2; have hfz13_3 := blk_frozen BK111.out 3))
      go_ret
      exact ⟨by first | rfl | (simp [errW_none, errW_some] <;> rfl) | (simp [*, errW_none, errW_some] <;> rfl), by repeat (first | (with_reducible first | exact HB.out | apply yA | apply yN | apply yD | refine yS ?_ GE111.out) | exact HB.out)⟩
  · rw [if_neg c2] at H
    have c2b0 : (a0_0 == 1) = false := beq_eq_false_iff_ne.mpr c2; have c2b1 : (a0_0 != 1) = true := bne_iff_ne.mpr c2
    by_cases c14 : a0_0 = 2
    · rw [if_pos c14] at H
      have c14b0 : (a0_0 == 2) = true := beq_iff_eq.mpr c14; have c14b1 : (a0_0 != 2) = false := bne_eq_false_iff_eq.mpr c14; clear c14
      by_cases c15 : a0_1 ≥ 1
      · rw [if_pos c15] at H
        have c15b0 : decide (1 ≤ a0_1) = true := decide_eq_true c15; clear c15
        by_cases c16 : a0_1 ≤ 4611686018427387904
        · rw [if_pos c16] at H
          have c16b0 : decide (a0_1 ≤ 4611686018427387904) = true := decide_eq_true c16; clear c16
          by_cases c17 : a0_2 ≤ 4611686018427387904
          · rw [if_pos c17] at H
            have c17b0 : decide (a0_2 ≤ 4611686018427387904) = true := decide_eq_true c17; clear c17; obtain rfl := Option.some.inj H
            go_enter Tryd.func79, Tryd.ntmps79
            go_wp2_with (first | ((with_reducible refine gate_dst (N := 1) rfl ?_); (try (refine gate_guard (by rfl) ?_; dsimp only)); refine box_event ?hg (N := 1) ?hd (cs := #[.int .i64 a0_0, .int .u64 a0_1, .int .u64 a0_2, .slice A0_3 l0_3.length c0_3]) (t := 88) ?hr ?_; (case hd => rfl); (case hg => rfl); (case hr => first | (go_simp; done) | (go_simp; rfl)); intro gb111 hg w18 hbox hb; have n0_ := Aside0.mk (below_step (hx_ HB) hb); have n1_ := Aside0.mk (hbox); have n2_ := Aside0.mk ((by rw [hg]; exact (below_size (hx_ HB)) : w.heap.size ≤ gb111)); have n3_ := Aside0.mk ((by rw [hg]; exact (below_size (hx_ HB)) : w.heap.size ≤ gb111)); clear HB; have HB := n0_; have BK111 := n1_; have GW111 := n2_; have GE111 := n3_; clear n0_ n1_ n2_ n3_; clear hb hbox hg; have hcz19_0 : w18.cell? ⟨gb111, 0, none⟩ = some (.int .i64 a0_0) := (blk_cell BK111.out 0).trans rfl; have hcz19_1 : w18.cell? ⟨gb111, 1, none⟩ = some (.int .u64 a0_1) := (blk_cell BK111.out 1).trans rfl; have hcz19_2 : w18.cell? ⟨gb111, 2, none⟩ = some (.int .u64 a0_2) := (blk_cell BK111.out 2).trans rfl; have hcz19_3 : w18.cell? ⟨gb111, 3, none⟩ = some (.slice A0_3 l0_3.length c0_3) := (blk_cell BK111.out 3).trans rfl; have hfz19_0 := blk_frozen BK111.out 0; have hfz19_1 := blk_frozen BK111.out 1; have hfz19_2 := blk_frozen BK111.out 2; have hfz19_3 := blk_frozen BK111.out 3))
            go_ret
            exact ⟨by first | rfl | (simp [errW_none, errW_some] <;> rfl) | (simp [*, errW_none, errW_some] <;> rfl), by repeat (first | (with_reducible first | exact HB.out | apply yA | apply yN | apply yD | refine yS ?_ GE111.out) | exact HB.out)⟩
          · rw [if_neg c17] at H
            have c17b0 : decide (a0_2 ≤ 4611686018427387904) = false := decide_eq_false c17; clear c17; obtain rfl := Option.some.inj H
            go_enter Tryd.func79, Tryd.ntmps79
            go_wp2_with (first | ((with_reducible refine gate_dst (N := 1) rfl ?_); (try (refine gate_guard (by rfl) ?_; dsimp only)); refine box_event ?hg (N := 1) ?hd (cs := #[.int .i64 a0_0, .int .u64 a0_1, .int .u64 a0_2, .slice A0_3 l0_3.length c0_3]) (t := 88) ?hr ?_; (case hd => rfl); (case hg => rfl); (case hr => first | (go_simp; done) | (go_simp; rfl)); intro gb111 hg w20 hbox hb; have n0_ := Aside0.mk (below_step (hx_ HB) hb); have n1_ := Aside0.mk (hbox); have n2_ := Aside0.mk ((by rw [hg]; exact (below_size (hx_ HB)) : w.heap.size ≤ gb111)); have n3_ := Aside0.mk ((by rw [hg]; exact (below_size (hx_ HB)) : w.heap.size ≤ gb111)); clear HB; have HB := n0_; have BK111 := n1_; have GW111 := n2_; have GE111 := n3_; clear n0_ n1_ n2_ n3_; clear hb hbox hg; have hcz21_0 : w20.cell? ⟨gb111, 0, none⟩ = some (.int .i64 a0_0) := (blk_cell BK111.out 0).trans rfl; have hcz21_1 : w20.cell? ⟨gb111, 1, none⟩ = some (.int .u64 a0_1) := (blk_cell BK111.out 1).trans rfl; have hcz21_2 : w20.cell? ⟨gb111, 2, none⟩ = some (.int .u64 a0_2) := (blk_cell BK111.out 2).trans rfl; have hcz21_3 : w20.cell? ⟨gb111, 3, none⟩ = some (.slice A0_3 l0_3.length c0_3) := (blk_cell BK111.out 3).trans rfl; have hfz21_0 := blk_frozen BK111.out 0; have hfz21_1 := blk_frozen BK111.out 1; have hfz21_2 := blk_frozen BK111.out 2; have hfz21_3 := blk_frozen BK111.out 3))
            go_ret
            exact ⟨by first | rfl | (simp [errW_none, errW_some] <;> rfl) | (simp [*, errW_none, errW_some] <;> rfl), by repeat (first | (with_reducible first | exact HB.out | apply yA | apply yN | apply yD | refine yS ?_ GE111.out) | exact HB.out)⟩
        · rw [if_neg c16] at H
          have c16b0 : decide (a0_1 ≤ 4611686018427387904) = false := decide_eq_false c16; clear c16; obtain rfl := Option.some.inj H
          go_enter Tryd.func79, Tryd.ntmps79
          go_wp2_with (first | ((with_reducible refine gate_dst (N := 1) rfl ?_); (try (refine gate_guard (by rfl) ?_; dsimp only)); refine box_event ?hg (N := 1) ?hd (cs := #[.int .i64 a0_0, .int .u64 a0_1, .int .u64 a0_2, .slice A0_3 l0_3.length c0_3]) (t := 88) ?hr ?_; (case hd => rfl); (case hg => rfl); (case hr => first | (go_simp; done) | (go_simp; rfl)); intro gb111 hg w22 hbox hb; have n0_ := Aside0.mk (below_step (hx_ HB) hb); have n1_ := Aside0.mk (hbox); have n2_ := Aside0.mk ((by rw [hg]; exact (below_size (hx_ HB)) : w.heap.size ≤ gb111)); have n3_ := Aside0.mk ((by rw [hg]; exact (below_size (hx_ HB)) : w.heap.size ≤ gb111)); clear HB; have HB := n0_; have BK111 := n1_; have GW111 := n2_; have GE111 := n3_; clear n0_ n1_ n2_ n3_; clear hb hbox hg; have hcz23_0 : w22.cell? ⟨gb111, 0, none⟩ = some (.int .i64 a0_0) := (blk_cell BK111.out 0).trans rfl; have hcz23_1 : w22.cell? ⟨gb111, 1, none⟩ = some (.int .u64 a0_1) := (blk_cell BK111.out 1).trans rfl; have hcz23_2 : w22.cell? ⟨gb111, 2, none⟩ = some (.int .u64 a0_2) := (blk_cell BK111.out 2).trans rfl; have hcz23_3 : w22.cell? ⟨gb111, 3, none⟩ = some (.slice A0_3 l0_3.length c0_3) := (blk_cell BK111.out 3).trans rfl; have hfz23_0 := blk_frozen BK111.out 0; have hfz23_1 := blk_frozen BK111.out 1; have hfz23_2 := blk_frozen BK111.out 2; have hfz23_3 := blk_frozen BK111.out 3))
          go_ret
          exact ⟨by first | rfl | (simp [errW_none, errW_some] <;> rfl) | (simp [*, errW_none, errW_some] <;> rfl), by repeat (first | (with_reducible first | exact HB.out | apply yA | apply yN | apply yD | refine yS ?_ GE111.out) | exact HB.out)⟩
      · rw [if_neg c15] at H
        have c15b0 : decide (1 ≤ a0_1) = false := decide_eq_false c15; clear c15; obtain rfl := Option.some.inj H
        go_enter Tryd.func79, Tryd.ntmps79
        go_wp2_with (first | ((with_reducible refine gate_dst (N := 1) rfl ?_); (try (refine gate_guard (by rfl) ?_; dsimp only)); refine box_event ?hg (N := 1) ?hd (cs := #[.int .i64 a0_0, .int .u64 a0_1, .int .u64 a0_2, .slice A0_3 l0_3.length c0_3]) (t := 88) ?hr ?_; (case hd => rfl); (case hg => rfl); (case hr => first | (go_simp; done) | (go_simp; rfl)); intro gb111 hg w24 hbox hb; have n0_ := Aside0.mk (below_step (hx_ HB) hb); have n1_ := Aside0.mk (hbox); have n2_ := Aside0.mk ((by rw [hg]; exact (below_size (hx_ HB)) : w.heap.size ≤ gb111)); have n3_ := Aside0.mk ((by rw [hg]; exact (below_size (hx_ HB)) : w.heap.size ≤ gb111)); clear HB; have HB := n0_; have BK111 := n1_; have GW111 := n2_; have GE111 := n3_; clear n0_ n1_ n2_ n3_; clear hb hbox hg; have hcz25_0 : w24.cell? ⟨gb111, 0, none⟩ = some (.int .i64 a0_0) := (blk_cell BK111.out 0).trans rfl; have hcz25_1 : w24.cell? ⟨gb111, 1, none⟩ = some (.int .u64 a0_1) := (blk_cell BK111.out 1).trans rfl; have hcz25_2 : w24.cell? ⟨gb111, 2, none⟩ = some (.int .u64 a0_2) := (blk_cell BK111.out 2).trans rfl; have hcz25_3 : w24.cell? ⟨gb111, 3, none⟩ = some (.slice A0_3 l0_3.length c0_3) := (blk_cell BK111.out 3).trans rfl; have hfz25_0 := blk_frozen BK111.out 0; have hfz25_1 := blk_frozen BK111.out 1; have hfz25_2 := blk_frozen BK111.out 2; have hfz25_3 := blk_frozen BK111.out 3))
        go_ret
        exact ⟨by first | rfl | (simp [errW_none, errW_some] <;> rfl) | (simp [*, errW_none, errW_some] <;> rfl), by repeat (first | (with_reducible first | exact HB.out | apply yA | apply yN | apply yD | refine yS ?_ GE111.out) | exact HB.out)⟩
    · rw [if_neg c14] at H
      have c14b0 : (a0_0 == 2) = false := beq_eq_false_iff_ne.mpr c14; have c14b1 : (a0_0 != 2) = true := bne_iff_ne.mpr c14; obtain rfl := Option.some.inj H
      go_enter Tryd.func79, Tryd.ntmps79
      go_wp2_with (first | ((with_reducible refine gate_dst (N := 1) rfl ?_); (try (refine gate_guard (by rfl) ?_; dsimp only)); refine box_event ?hg (N := 1) ?hd (cs := #[.int .i64 a0_0, .int .u64 a0_1, .int .u64 a0_2, .slice A0_3 l0_3.length c0_3]) (t := 88) ?hr ?_; (case hd => rfl); (case hg => rfl); (case hr => first | (go_simp; done) | (go_simp; rfl)); intro gb111 hg w26 hbox hb; have n0_ := Aside0.mk (below_step (hx_ HB) hb); have n1_ := Aside0.mk (hbox); have n2_ := Aside0.mk ((by rw [hg]; exact (below_size (hx_ HB)) : w.heap.size ≤ gb111)); have n3_ := Aside0.mk ((by rw [hg]; exact (below_size (hx_ HB)) : w.heap.size ≤ gb111)); clear HB; have HB := n0_; have BK111 := n1_; have GW111 := n2_; have GE111 := n3_; clear n0_ n1_ n2_ n3_; clear hb hbox hg; have hcz27_0 : w26.cell? ⟨gb111, 0, none⟩ = some (.int .i64 a0_0) := (blk_cell BK111.out 0).trans rfl; have hcz27_1 : w26.cell? ⟨gb111, 1, none⟩ = some (.int .u64 a0_1) := (blk_cell BK111.out 1).trans rfl; have hcz27_2 : w26.cell? ⟨gb111, 2, none⟩ = some (.int .u64 a0_2) := (blk_cell BK111.out 2).trans rfl; have hcz27_3 : w26.cell? ⟨gb111, 3, none⟩ = some (.slice A0_3 l0_3.length c0_3) := (blk_cell BK111.out 3).trans rfl; have hfz27_0 := blk_frozen BK111.out 0; have hfz27_1 := blk_frozen BK111.out 1; have hfz27_2 := blk_frozen BK111.out 2; have hfz27_3 := blk_frozen BK111.out 3))
      go_ret
      exact ⟨by first | rfl | (simp [errW_none, errW_some] <;> rfl) | (simp [*, errW_none, errW_some] <;> rfl), by repeat (first | (with_reducible first | exact HB.out | apply yA | apply yN | apply yD | refine yS ?_ GE111.out) | exact HB.out)⟩
def rec_Same.f (a0_0 : Int) (a0_1 : Int) (a0_2 : Int) (l0_3 : List Int) (a1_0 : Int) (a1_1 : Int) (a1_2 : Int) (l1_3 : List Int) : Option (Bool) := if a0_0 = a1_0 then (if a0_1 = a1_1 then (if a0_2 = a1_2 then ((bytes_Equal.f l0_3 l1_3).bind fun t114 => (some t114)) else (some false)) else (some false)) else (some false)
def tikref_Bytes.f (l0 : List Int) (l1 : List Int) : Option (Bool) := some ((strOfNums l0).toList == (strOfNums l1).toList)
set_option maxHeartbeats 8000000 in
set_option maxRecDepth 100000 in
theorem tikref_Bytes.calls (A0 : Option Addr) (c0 : Nat) (l0 : List Int) (A1 : Option Addr) (c1 : Nat) (l1 : List Int) (r : Bool) (w : World) (hr0 : Kd.C (Kd.int .u8) w A0 l0.length l0) (hc0 : l0.length ≤ c0) (hr1 : Kd.C (Kd.int .u8) w A1 l1.length l1) (hc1 : l1.length ≤ c1) (h : tikref_Bytes.f l0 l1 = some r) :
    Calls Tryd.prog 38 #[.slice A0 l0.length c0, .slice A1 l1.length c1] w fun e w' => e = .returned (.bool r) ∧ Drawn0 w w' := by
  have HR0 := Aside0.mk hr0; have HC0 := Aside0.mk hc0; clear hr0 hc0; have HR1 := Aside0.mk hr1; have HC1 := Aside0.mk hc1; clear hr1 hc1; have H : (some ((strOfNums l0).toList == (strOfNums l1).toList)) = some r := h; clear h; obtain rfl := Option.some.inj H; have hcv3 := Kd.C_string (P := Tryd.prog) (A := A0) (c := c0) Tryd.underlying64 Tryd.underlying5 Tryd.underlying9 HR0.out; have hcv4 := Kd.C_string (P := Tryd.prog) (A := A1) (c := c1) Tryd.underlying64 Tryd.underlying5 Tryd.underlying9 HR1.out
  go_enter Tryd.func38, Tryd.ntmps38
  go_wp2
  go_ret
  exact ⟨by first | rfl | (simp; done) | (simp [*]; done), by repeat (first | exact Drawn0.refl _ | apply Drawn0.step)⟩
def tikref13_SameRecord.f (a0_0 : Int) (a0_1 : Int) (a0_2 : Int) (l0_3 : List Int) (a1_0 : Int) (a1_1 : Int) (a1_2 : Int) (l1_3 : List Int) : Option (Bool) := if a0_0 = a1_0 then (if a0_1 = a1_1 then (if a0_2 = a1_2 then ((tikref_Bytes.f l0_3 l1_3).bind fun t117 => (some t117)) else (some false)) else (some false)) else (some false)
set_option maxHeartbeats 8000000 in
set_option maxRecDepth 100000 in
theorem tikref13_SameRecord.calls (a0_0 : Int) (a0_1 : Int) (a0_2 : Int) (A0_3 : Option Addr) (c0_3 : Nat) (l0_3 : List Int) (a1_0 : Int) (a1_1 : Int) (a1_2 : Int) (A1_3 : Option Addr) (c1_3 : Nat) (l1_3 : List Int) (r : Bool) (w : World) (hr0_3 : Kd.C (Kd.int .u8) w A0_3 l0_3.length l0_3) (hc0_3 : l0_3.length ≤ c0_3) (hr1_3 : Kd.C (Kd.int .u8) w A1_3 l1_3.length l1_3) (hc1_3 : l1_3.length ≤ c1_3) (h : tikref13_SameRecord.f a0_0 a0_1 a0_2 l0_3 a1_0 a1_1 a1_2 l1_3 = some r) :
    Calls Tryd.prog 76 #[.agg #[.int .i64 a0_0, .int .u64 a0_1, .int .u64 a0_2, .slice A0_3 l0_3.length c0_3], .agg #[.int .i64 a1_0, .int .u64 a1_1, .int .u64 a1_2, .slice A1_3 l1_3.length c1_3]] w fun e w' => e = .returned (.bool r) ∧ Below w.heap.size w w' := by
  have hu123 := Tryd.underlying123; have HR0_3 := Aside0.mk hr0_3; have HC0_3 := Aside0.mk hc0_3; clear hr0_3 hc0_3; have HR1_3 := Aside0.mk hr1_3; have HC1_3 := Aside0.mk hc1_3; clear hr1_3 hc1_3; have HB := Aside0.mk (Below.refl w.heap.size w); have H : (if a0_0 = a1_0 then (if a0_1 = a1_1 then (if a0_2 = a1_2 then ((tikref_Bytes.f l0_3 l1_3).bind fun t117 => (some t117)) else (some false)) else (some false)) else (some false)) = some r := h; clear h
  by_cases c3 : a0_0 = a1_0
  · rw [if_pos c3] at H
    have c3b0 : (a0_0 == a1_0) = true := beq_iff_eq.mpr c3; have c3b1 : (a0_0 != a1_0) = false := bne_eq_false_iff_eq.mpr c3; clear c3
    by_cases c4 : a0_1 = a1_1
    · rw [if_pos c4] at H
      have c4b0 : (a0_1 == a1_1) = true := beq_iff_eq.mpr c4; have c4b1 : (a0_1 != a1_1) = false := bne_eq_false_iff_eq.mpr c4; clear c4
      by_cases c5 : a0_2 = a1_2
      · rw [if_pos c5] at H
        have c5b0 : (a0_2 == a1_2) = true := beq_iff_eq.mpr c5; have c5b1 : (a0_2 != a1_2) = false := bne_eq_false_iff_eq.mpr c5; clear c5; replace H := Option.bind_eq_some_iff.mp H; obtain ⟨t117, A60, H⟩ := H; replace H : (some t117) = some r := H; have A6 := Aside0.mk A60; clear A60; obtain rfl := Option.some.inj H
        go_enter Tryd.func76, Tryd.ntmps76
        go_wp2_with (first | ((with_reducible refine gate_dst (N := 2) rfl ?_); refine box_event ?hg (N := 2) ?hd (cs := #[.int .i64 a0_0, .int .u64 a0_1, .int .u64 a0_2, .slice A0_3 l0_3.length c0_3]) (t := 123) ?hr ?_; (case hd => rfl); (case hg => rfl); (case hr => first | (go_simp; done) | (go_simp; rfl)); intro gb115 hg w7 hbox hb; have n0_ := Aside0.mk (below_step (hx_ HB) hb); have n1_ := Aside0.mk (hbox); have n2_ := Aside0.mk ((by rw [hg]; exact (below_size (hx_ HB)) : w.heap.size ≤ gb115)); have n3_ := Aside0.mk ((by rw [hg]; exact (below_size (hx_ HB)) : w.heap.size ≤ gb115)); clear HB; have HB := n0_; have BK115 := n1_; have GW115 := n2_; have GE115 := n3_; clear n0_ n1_ n2_ n3_; clear hb hbox hg) | ((with_reducible refine gate_dst (N := 3) rfl ?_); refine box_event ?hg (N := 3) ?hd (cs := #[.int .i64 a1_0, .int .u64 a1_1, .int .u64 a1_2, .slice A1_3 l1_3.length c1_3]) (t := 123) ?hr ?_; (case hd => rfl); (case hg => rfl); (case hr => first | (go_simp; done) | (go_simp; rfl)); intro gb116 hg w8 hbox hb; have n0_ := Aside0.mk (blk_below (g := gb115) (o := .cells #[.int .i64 a0_0, .int .u64 a0_1, .int .u64 a0_2, .slice A0_3 l0_3.length c0_3] 123 (0, 0)) (bx_ BK115) hb); have n1_ := Aside0.mk (below_step (by repeat (first | (with_reducible first | exact HB.out | apply yA | apply yN | apply yD | refine yS ?_ GE115.out) | exact HB.out)) hb); have n2_ := Aside0.mk (hbox); have n3_ := Aside0.mk ((by rw [hg]; exact (below_size (by repeat (first | (with_reducible first | exact HB.out | apply yA | apply yN | apply yD | refine yS ?_ GE115.out) | exact HB.out))) : w.heap.size ≤ gb116)); have n4_ := Aside0.mk ((by rw [hg]; exact (below_size (by repeat (first | (with_reducible first | exact HB.out | apply yA | apply yN | apply yD | refine yS ?_ GE115.out) | exact HB.out))) : w.heap.size ≤ gb116)); have n5_ := Aside0.mk ((by rw [hg]; exact Nat.ne_of_lt (blk_lt (g := gb115) (o := .cells #[.int .i64 a0_0, .int .u64 a0_1, .int .u64 a0_2, .slice A0_3 l0_3.length c0_3] 123 (0, 0)) (bx_ BK115)) : gb115 ≠ gb116)); have n6_ := Aside0.mk ((by rw [hg]; exact Nat.ne_of_gt (blk_lt (g := gb115) (o := .cells #[.int .i64 a0_0, .int .u64 a0_1, .int .u64 a0_2, .slice A0_3 l0_3.length c0_3] 123 (0, 0)) (bx_ BK115)) : gb116 ≠ gb115)); clear BK115; clear HB; have BK115 := n0_; have HB := n1_; have BK116 := n2_; have GW116 := n3_; have GE116 := n4_; have NB115_116 := n5_; have NB116_115 := n6_; clear n0_ n1_ n2_ n3_ n4_ n5_ n6_; clear hb hbox hg; have hnb9 := NB115_116.out; have hnc9 := NB116_115.out; have hcz10_0 : w8.cell? ⟨gb115, 0, none⟩ = some (.int .i64 a0_0) := (blk_cell BK115.out 0).trans rfl; have hcz10_1 : w8.cell? ⟨gb115, 1, none⟩ = some (.int .u64 a0_1) := (blk_cell BK115.out 1).trans rfl; have hcz10_2 : w8.cell? ⟨gb115, 2, none⟩ = some (.int .u64 a0_2) := (blk_cell BK115.out 2).trans rfl; have hcz10_3 : w8.cell? ⟨gb115, 3, none⟩ = some (.slice A0_3 l0_3.length c0_3) := (blk_cell BK115.out 3).trans rfl; have hfz10_0 := blk_frozen BK115.out 0; have hfz10_1 := blk_frozen BK115.out 1; have hfz10_2 := blk_frozen BK115.out 2; have hfz10_3 := blk_frozen BK115.out 3; have hcz11_0 : w8.cell? ⟨gb116, 0, none⟩ = some (.int .i64 a1_0) := (blk_cell BK116.out 0).trans rfl; have hcz11_1 : w8.cell? ⟨gb116, 1, none⟩ = some (.int .u64 a1_1) := (blk_cell BK116.out 1).trans rfl; have hcz11_2 : w8.cell? ⟨gb116, 2, none⟩ = some (.int .u64 a1_2) := (blk_cell BK116.out 2).trans rfl; have hcz11_3 : w8.cell? ⟨gb116, 3, none⟩ = some (.slice A1_3 l1_3.length c1_3) := (blk_cell BK116.out 3).trans rfl; have hfz11_0 := blk_frozen BK116.out 0; have hfz11_1 := blk_frozen BK116.out 1; have hfz11_2 := blk_frozen BK116.out 2; have hfz11_3 := blk_frozen BK116.out 3) | (go_at_call 38; (with_reducible refine (tikref_Bytes.calls _ _ l0_3 _ _ l1_3 t117 _ ?side1 ?side2 ?side3 ?side4 A6.out).mono ?_); (case side1 => repeat (first | exact (Kd.C_below HR0_3.out HB.out) | (with_reducible refine Kd.C_alloc ?_ _) | (with_reducible refine Kd.C_drewN ?_ _) | (with_reducible refine Kd.C_drew ?_))); (case side2 => exact HC0_3.out); (case side3 => repeat (first | exact (Kd.C_below HR1_3.out HB.out) | (with_reducible refine Kd.C_alloc ?_ _) | (with_reducible refine Kd.C_drewN ?_ _) | (with_reducible refine Kd.C_drew ?_))); (case side4 => exact HC1_3.out); rintro e w' ⟨rfl, ⟨nd, rfl⟩⟩))
        go_ret
        exact ⟨by first | rfl | (simp [errW_none, errW_some] <;> rfl) | (simp [*, errW_none, errW_some] <;> rfl), by repeat (first | (with_reducible first | exact HB.out | apply yA | apply yN | apply yD | refine yS ?_ GE115.out | refine yS ?_ GE116.out) | exact HB.out)⟩
      · rw [if_neg c5] at H
        have c5b0 : (a0_2 == a1_2) = false := beq_eq_false_iff_ne.mpr c5; have c5b1 : (a0_2 != a1_2) = true := bne_iff_ne.mpr c5; obtain rfl := Option.some.inj H
        go_enter Tryd.func76, Tryd.ntmps76
        go_wp2_with (first | ((with_reducible refine gate_dst (N := 2) rfl ?_); refine box_event ?hg (N := 2) ?hd (cs := #[.int .i64 a0_0, .int .u64 a0_1, .int .u64 a0_2, .slice A0_3 l0_3.length c0_3]) (t := 123) ?hr ?_; (case hd => rfl); (case hg => rfl); (case hr => first | (go_simp; done) | (go_simp; rfl)); intro gb115 hg w12 hbox hb; have n0_ := Aside0.mk (below_step (hx_ HB) hb); have n1_ := Aside0.mk (hbox); have n2_ := Aside0.mk ((by rw [hg]; exact (below_size (hx_ HB)) : w.heap.size ≤ gb115)); have n3_ := Aside0.mk ((by rw [hg]; exact (below_size (hx_ HB)) : w.heap.size ≤ gb115)); clear HB; have HB := n0_; have BK115 := n1_; have GW115 := n2_; have GE115 := n3_; clear n0_ n1_ n2_ n3_; clear hb hbox hg) | ((with_reducible refine gate_dst (N := 3) rfl ?_); refine box_event ?hg (N := 3) ?hd (cs := #[.int .i64 a1_0, .int .u64 a1_1, .int .u64 a1_2, .slice A1_3 l1_3.length c1_3]) (t := 123) ?hr ?_; (case hd => rfl); (case hg => rfl); (case hr => first | (go_simp; done) | (go_simp; rfl)); intro gb116 hg w13 hbox hb; have n0_ := Aside0.mk (blk_below (g := gb115) (o := .cells #[.int .i64 a0_0, .int .u64 a0_1, .int .u64 a0_2, .slice A0_3 l0_3.length c0_3] 123 (0, 0)) (bx_ BK115) hb); have n1_ := Aside0.mk (below_step (by repeat (first | (with_reducible first | exact HB.out | apply yA | apply yN | apply yD | refine yS ?_ GE115.out) | exact HB.out)) hb); have n2_ := Aside0.mk (hbox); have n3_ := Aside0.mk ((by rw [hg]; exact (below_size (by repeat (first | (with_reducible first | exact HB.out | apply yA | apply yN | apply yD | refine yS ?_ GE115.out) | exact HB.out))) : w.heap.size ≤ gb116)); have n4_ := Aside0.mk ((by rw [hg]; exact (below_size (by repeat (first | (with_reducible first | exact HB.out | apply yA | apply yN | apply yD | refine yS ?_ GE115.out) | exact HB.out))) : w.heap.size ≤ gb116)); have n5_ := Aside0.mk ((by rw [hg]; exact Nat.ne_of_lt (blk_lt (g := gb115) (o := .cells #[.int .i64 a0_0, .int .u64 a0_1, .int .u64 a0_2, .slice A0_3 l0_3.length c0_3] 123 (0, 0)) (bx_ BK115)) : gb115 ≠ gb116)); have n6_ := Aside0.mk ((by rw [hg]; exact Nat.ne_of_gt (blk_lt (g := gb115) (o := .cells #[.int .i64 a0_0, .int .u64 a0_1, .int .u64 a0_2, .slice A0_3 l0_3.length c0_3] 123 (0, 0)) (bx_ BK115)) : gb116 ≠ gb115)); clear BK115; clear HB; have BK115 := n0_; have HB := n1_; have BK116 := n2_; have GW116 := n3_; have GE116 := n4_; have NB115_116 := n5_; have NB116_115 := n6_; clear n0_ n1_ n2_ n3_ n4_ n5_ n6_; clear hb hbox hg; have hnb14 := NB115_116.out; have hnc14 := NB116_115.out; have hcz15_0 : w13.cell? ⟨gb115, 0, none⟩ = some (.int .i64 a0_0) := (blk_cell BK115.out 0).trans rfl; have hcz15_1 : w13.cell? ⟨gb115, 1, none⟩ = some (.int .u64 a0_1) := (blk_cell BK115.out 1).trans rfl; have hcz15_2 : w13.cell? ⟨gb115, 2, none⟩ = some (.int .u64 a0_2) := (blk_cell BK115.out 2).trans rfl; have hcz15_3 : w13.cell? ⟨gb115, 3, none⟩ = some (.slice A0_3 l0_3.length c0_3) := (blk_cell BK115.out 3).trans rfl; have hfz15_0 := blk_frozen BK115.out 0; have hfz15_1 := blk_frozen BK115.out 1; have hfz15_2 := blk_frozen BK115.out 2; have hfz15_3 := blk_frozen BK115.out 3; have hcz16_0 : w13.cell? ⟨gb116, 0, none⟩ = some (.int .i64 a1_0) := (blk_cell BK116.out 0).trans rfl; have hcz16_1 : w13.cell? ⟨gb116, 1, none⟩ = some (.int .u64 a1_1) := (blk_cell BK116.out 1).trans rfl; have hcz16_2 : w13.cell? ⟨gb116, 2, none⟩ = some (.int .u64 a1_2) := (blk_cell BK116.out 2).trans rfl; have hcz16_3 : w13.cell? ⟨gb116, 3, none⟩ = some (.slice A1_3 l1_3.length c1_3) := (blk_cell BK116.out 3).trans rfl; have hfz16_0 := blk_frozen BK116.out 0; have hfz16_1 := blk_frozen BK116.out 1; have hfz16_2 := blk_frozen BK116.out 2; have hfz16_3 := blk_frozen BK116.out 3))
        go_ret
        exact ⟨by first | rfl | (simp [errW_none, errW_some] <;> rfl) | (simp [*, errW_none, errW_some] <;> rfl), by repeat (first | (with_reducible first | exact HB.out | apply yA | apply yN | apply yD | refine yS ?_ GE115.out | refine yS ?_ GE116.out) | exact HB.out)⟩
    · rw [if_neg c4] at H
      have c4b0 : (a0_1 == a1_1) = false := beq_eq_false_iff_ne.mpr c4; have c4b1 : (a0_1 != a1_1) = true := bne_iff_ne.mpr c4; obtain rfl := Option.some.inj H
      go_enter Tryd.func76, Tryd.ntmps76
      go_wp2_with (first | ((with_reducible refine gate_dst (N := 2) rfl ?_); refine box_event ?hg (N := 2) ?hd (cs := #[.int .i64 a0_0, .int .u64 a0_1, .int .u64 a0_2, .slice A0_3 l0_3.length c0_3]) (t := 123) ?hr ?_; (case hd => rfl); (case hg => rfl); (case hr => first | (go_simp; done) | (go_simp; rfl)); intro gb115 hg w17 hbox hb; have n0_ := Aside0.mk (below_step (hx_ HB) hb); have n1_ := Aside0.mk (hbox); have n2_ := Aside0.mk ((by rw [hg]; exact (below_size (hx_ HB)) : w.heap.size ≤ gb115)); have n3_ := Aside0.mk ((by rw [hg]; exact (below_size (hx_ HB)) : w.heap.size ≤ gb115)); clear HB; have HB := n0_; have BK115 := n1_; have GW115 := n2_; have GE115 := n3_; clear n0_ n1_ n2_ n3_; clear hb hbox hg) | ((with_reducible refine gate_dst (N := 3) rfl ?_); refine box_event ?hg (N := 3) ?hd (cs := #[.int .i64 a1_0, .int .u64 a1_1, .int .u64 a1_2, .slice A1_3 l1_3.length c1_3]) (t := 123) ?hr ?_; (case hd => rfl); (case hg => rfl); (case hr => first | (go_simp; done) | (go_simp; rfl)); intro gb116 hg w18 hbox hb; have n0_ := Aside0.mk (blk_below (g := gb115) (o := .cells #[.int .i64 a0_0, .int .u64 a0_1, .int .u64 a0_2, .slice A0_3 l0_3.length c0_3] 123 (0, 0)) (bx_ BK115) hb); have n1_ := Aside0.mk (below_step (by repeat (first | (with_reducible first | exact HB.out | apply yA | apply yN | apply yD | refine yS ?_ GE115.out) | exact HB.out)) hb); have n2_ := Aside0.mk (hbox); have n3_ := Aside0.mk ((by rw [hg]; exact (below_size (by repeat (first | (with_reducible first | exact HB.out | apply yA | apply yN | apply yD | refine yS ?_ GE115.out) | exact HB.out))) : w.heap.size ≤ gb116)); have n4_ := Aside0.mk ((by rw [hg]; exact (below_size (by repeat (first | (with_reducible first | exact HB.out | apply yA | apply yN | apply yD | refine yS ?_ GE115.out) | exact HB.out))) : w.heap.size ≤ gb116)); have n5_ := Aside0.mk ((by rw [hg]; exact Nat.ne_of_lt (blk_lt (g := gb115) (o := .cells #[.int .i64 a0_0, .int .u64 a0_1, .int .u64 a0_2, .slice A0_3 l0_3.length c0_3] 123 (0, 0)) (bx_ BK115)) : gb115 ≠ gb116)); have n6_ := Aside0.mk ((by rw [hg]; exact Nat.ne_of_gt (blk_lt (g := gb115) (o := .cells #[.int .i64 a0_0, .int .u64 a0_1, .int .u64 a0_2, .slice A0_3 l0_3.length c0_3] 123 (0, 0)) (bx_ BK115)) : gb116 ≠ gb115)); clear BK115; clear HB; have BK115 := n0_; have HB := n1_; have BK116 := n2_; have GW116 := n3_; have GE116 := n4_; have NB115_116 := n5_; have NB116_115 := n6_; clear n0_ n1_ n2_ n3_ n4_ n5_ n6_; clear hb hbox hg; have hnb19 := NB115_116.out; have hnc19 := NB116_115.out; have hcz20_0 : w18.cell? ⟨gb115, 0, none⟩ = some (.int .i64 a0_0) := (blk_cell BK115.out 0).trans rfl; have hcz20_1 : w18.cell? ⟨gb115, 1, none⟩ = some (.int .u64 a0_1) := (blk_cell BK115.out 1).trans rfl; have hcz20_2 : w18.cell? ⟨gb115, 2, none⟩ = some (.int .u64 a0_2) := (blk_cell BK115.out 2).trans rfl; have hcz20_3 : w18.cell? ⟨gb115, 3, none⟩ = some (.slice A0_3 l0_3.length c0_3) := (blk_cell BK115.out 3).trans rfl; have hfz20_0 := blk_frozen BK115.out 0; have hfz20_1 := blk_frozen BK115.out 1; have hfz20_2 := blk_frozen BK115.out 2; have hfz20_3 := blk_frozen BK115.out 3; have hcz21_0 : w18.cell? ⟨gb116, 0, none⟩ = some (.int .i64 a1_0) := (blk_cell BK116.out 0).trans rfl; have hcz21_1 : w18.cell? ⟨gb116, 1, none⟩ = some (.int .u64 a1_1) := (blk_cell BK116.out 1).trans rfl; have hcz21_2 : w18.cell? ⟨gb116, 2, none⟩ = some (.int .u64 a1_2) := (blk_cell BK116.out 2).trans rfl; have hcz21_3 : w18.cell? ⟨gb116, 3, none⟩ = some (.slice A1_3 l1_3.length c1_3) := (blk_cell BK116.out 3).trans rfl; have hfz21_0 := blk_frozen BK116.out 0; have hfz21_1 := blk_frozen BK116.out 1; have hfz21_2 := blk_frozen BK116.out 2; have hfz21_3 := blk_frozen BK116.out 3))
      go_ret
      exact ⟨by first | rfl | (simp [errW_none, errW_some] <;> rfl) | (simp [*, errW_none, errW_some] <;> rfl), by repeat (first | (with_reducible first | exact HB.out | apply yA | apply yN | apply yD | refine yS ?_ GE115.out | refine yS ?_ GE116.out) | exact HB.out)⟩
  · rw [if_neg c3] at H
    have c3b0 : (a0_0 == a1_0) = false := beq_eq_false_iff_ne.mpr c3; have c3b1 : (a0_0 != a1_0) = true := bne_iff_ne.mpr c3; obtain rfl := Option.some.inj H
    go_enter Tryd.func76, Tryd.ntmps76
    go_wp2_with (first | ((with_reducible refine gate_dst (N := 2) rfl ?_); refine box_event ?hg (N := 2) ?hd (cs := #[.int .i64 a0_0, .int .u64 a0_1, .int .u64 a0_2, .slice A0_3 l0_3.length c0_3]) (t := 123) ?hr ?_; (case hd => rfl); (case hg => rfl); (case hr => first | (go_simp; done) | (go_simp; rfl)); intro gb115 hg w22 hbox hb; have n0_ := Aside0.mk (below_step (hx_ HB) hb); have n1_ := Aside0.mk (hbox); have n2_ := Aside0.mk ((by rw [hg]; exact (below_size (hx_ HB)) : w.heap.size ≤ gb115)); have n3_ := Aside0.mk ((by rw [hg]; exact (below_size (hx_ HB)) : w.heap.size ≤ gb115)); clear HB; have HB := n0_; have BK115 := n1_; have GW115 := n2_; have GE115 := n3_; clear n0_ n1_ n2_ n3_; clear hb hbox hg) | ((with_reducible refine gate_dst (N := 3) rfl ?_); refine box_event ?hg (N := 3) ?hd (cs := #[.int .i64 a1_0, .int .u64 a1_1, .int .u64 a1_2, .slice A1_3 l1_3.length c1_3]) (t := 123) ?hr ?_; (case hd => rfl); (case hg => rfl); (case hr => first | (go_simp; done) | (go_simp; rfl)); intro gb116 hg w23 hbox hb; have n0_ := Aside0.mk (blk_below (g := gb115) (o := .cells #[.int .i64 a0_0, .int .u64 a0_1, .int .u64 a0_2, .slice A0_3 l0_3.length c0_3] 123 (0, 0)) (bx_ BK115) hb); have n1_ := Aside0.mk (below_step (by repeat (first | (with_reducible first | exact HB.out | apply yA | apply yN | apply yD | refine yS ?_ GE115.out) | exact HB.out)) hb); have n2_ := Aside0.mk (hbox); have n3_ := Aside0.mk ((by rw [hg]; exact (below_size (by repeat (first | (with_reducible first | exact HB.out | apply yA | apply yN | apply yD | refine yS ?_ GE115.out) | exact HB.out))) : w.heap.size ≤ gb116)); have n4_ := Aside0.mk ((by rw [hg]; exact (below_size (by repeat (first | (with_reducible first | exact HB.out | apply yA | apply yN | apply yD | refine yS ?_ GE115.out) | exact HB.out))) : w.heap.size ≤ gb116)); have n5_ := Aside0.mk ((by rw [hg]; exact Nat.ne_of_lt (blk_lt (g := gb115) (o := .cells #[.int .i64 a0_0, .int .u64 a0_1, .int .u64 a0_2, .slice A0_3 l0_3.length c0_3] 123 (0, 0)) (bx_ BK115)) : gb115 ≠ gb116)); have n6_ := Aside0.mk ((by rw [hg]; exact Nat.ne_of_gt (blk_lt (g := gb115) (o := .cells #[.int .i64 a0_0, .int .u64 a0_1, .int .u64 a0_2, .slice A0_3 l0_3.length c0_3] 123 (0, 0)) (bx_ BK115)) : gb116 ≠ gb115)); clear BK115; clear HB; have BK115 := n0_; have HB := n1_; have BK116 := n2_; have GW116 := n3_; have GE116 := n4_; have NB115_116 := n5_; have NB116_115 := n6_; clear n0_ n1_ n2_ n3_ n4_ n5_ n6_; clear hb hbox hg; have hnb24 := NB115_116.out; have hnc24 := NB116_115.out; have hcz25_0 : w23.cell? ⟨gb115, 0, none⟩ = some (.int .i64 a0_0) := (blk_cell BK115.out 0).trans rfl; have hcz25_1 : w23.cell? ⟨gb115, 1, none⟩ = some (.int .u64 a0_1) := (blk_cell BK115.out 1).trans rfl; have hcz25_2 : w23.cell? ⟨gb115, 2, none⟩ = some (.int .u64 a0_2) := (blk_cell BK115.out 2).trans rfl; have hcz25_3 : w23.cell? ⟨gb115, 3, none⟩ = some (.slice A0_3 l0_3.length c0_3) := (blk_cell BK115.out 3).trans rfl; have hfz25_0 := blk_frozen BK115.out 0; have hfz25_1 := blk_frozen BK115.out 1; have hfz25_2 := blk_frozen BK115.out 2; have hfz25_3 := blk_frozen BK115.out 3; have hcz26_0 : w23.cell? ⟨gb116, 0, none⟩ = some (.int .i64 a1_0) := (blk_cell BK116.out 0).trans rfl; have hcz26_1 : w23.cell? ⟨gb116, 1, none⟩ = some (.int .u64 a1_1) := (blk_cell BK116.out 1).trans rfl; have hcz26_2 : w23.cell? ⟨gb116, 2, none⟩ = some (.int .u64 a1_2) := (blk_cell BK116.out 2).trans rfl; have hcz26_3 : w23.cell? ⟨gb116, 3, none⟩ = some (.slice A1_3 l1_3.length c1_3) := (blk_cell BK116.out 3).trans rfl; have hfz26_0 := blk_frozen BK116.out 0; have hfz26_1 := blk_frozen BK116.out 1; have hfz26_2 := blk_frozen BK116.out 2; have hfz26_3 := blk_frozen BK116.out 3))
    go_ret
    exact ⟨by first | rfl | (simp [errW_none, errW_some] <;> rfl) | (simp [*, errW_none, errW_some] <;> rfl), by repeat (first | (with_reducible first | exact HB.out | apply yA | apply yN | apply yD | refine yS ?_ GE115.out | refine yS ?_ GE116.out) | exact HB.out)⟩
def tikref13_MayRecord.f (a0_0 : Int) (a0_1 : Int) (a0_2 : Int) (l0_3 : List Int) : Option (Bool) := if a0_0 = 1 then (if a0_1 ≥ 1 then (if a0_1 ≤ 4611686018427387904 then (if a0_2 ≤ 4611686018427387904 then (some (decide ((l0_3.length : Int) ≤ 1048576))) else (some false)) else (some false)) else (some false)) else (if a0_0 = 2 then (if a0_1 ≥ 1 then (if a0_1 ≤ 4611686018427387904 then (if a0_2 ≤ 4611686018427387904 then (some (decide ((l0_3.length : Int) ≤ 1048576))) else (some false)) else (some false)) else (some false)) else (some false))
set_option maxHeartbeats 8000000 in
set_option maxRecDepth 100000 in
theorem tikref13_MayRecord.calls (a0_0 : Int) (a0_1 : Int) (a0_2 : Int) (A0_3 : Option Addr) (c0_3 : Nat) (l0_3 : List Int) (r : Bool) (w : World) (hr0_3 : Kd.C (Kd.int .u8) w A0_3 l0_3.length l0_3) (hc0_3 : l0_3.length ≤ c0_3) (h : tikref13_MayRecord.f a0_0 a0_1 a0_2 l0_3 = some r) :
    Calls Tryd.prog 103 #[.agg #[.int .i64 a0_0, .int .u64 a0_1, .int .u64 a0_2, .slice A0_3 l0_3.length c0_3]] w fun e w' => e = .returned (.bool r) ∧ Below w.heap.size w w' := by
  have hu123 := Tryd.underlying123; have HR0_3 := Aside0.mk hr0_3; have HC0_3 := Aside0.mk hc0_3; clear hr0_3 hc0_3; have HB := Aside0.mk (Below.refl w.heap.size w); have H : (if a0_0 = 1 then (if a0_1 ≥ 1 then (if a0_1 ≤ 4611686018427387904 then (if a0_2 ≤ 4611686018427387904 then (some (decide ((l0_3.length : Int) ≤ 1048576))) else (some false)) else (some false)) else (some false)) else (if a0_0 = 2 then (if a0_1 ≥ 1 then (if a0_1 ≤ 4611686018427387904 then (if a0_2 ≤ 4611686018427387904 then (some (decide ((l0_3.length : Int) ≤ 1048576))) else (some false)) else (some false)) else (some false)) else (some false))) = some r := h; clear h
  by_cases c2 : a0_0 = 1
  · rw [if_pos c2] at H
    have c2b0 : (a0_0 == 1) = true := beq_iff_eq.mpr c2; have c2b1 : (a0_0 != 1) = false := bne_eq_false_iff_eq.mpr c2; clear c2
    by_cases c3 : a0_1 ≥ 1
    · rw [if_pos c3] at H
      have c3b0 : decide (1 ≤ a0_1) = true := decide_eq_true c3; clear c3
      by_cases c4 : a0_1 ≤ 4611686018427387904
      · rw [if_pos c4] at H
        have c4b0 : decide (a0_1 ≤ 4611686018427387904) = true := decide_eq_true c4; clear c4
        by_cases c5 : a0_2 ≤ 4611686018427387904
        · rw [if_pos c5] at H
          have c5b0 : decide (a0_2 ≤ 4611686018427387904) = true := decide_eq_true c5; clear c5; obtain rfl := Option.some.inj H
          go_enter Tryd.func103, Tryd.ntmps103
          go_wp2_with (first | ((with_reducible refine gate_dst (N := 1) rfl ?_); (try (refine gate_guard (by rfl) ?_; dsimp only)); refine box_event ?hg (N := 1) ?hd (cs := #[.int .i64 a0_0, .int .u64 a0_1, .int .u64 a0_2, .slice A0_3 l0_3.length c0_3]) (t := 123) ?hr ?_; (case hd => rfl); (case hg => rfl); (case hr => first | (go_simp; done) | (go_simp; rfl)); intro gb118 hg w6 hbox hb; have n0_ := Aside0.mk (below_step (hx_ HB) hb); have n1_ := Aside0.mk (hbox); have n2_ := Aside0.mk ((by rw [hg]; exact (below_size (hx_ HB)) : w.heap.size ≤ gb118)); have n3_ := Aside0.mk ((by rw [hg]; exact (below_size (hx_ HB)) : w.heap.size ≤ gb118)); clear HB; have HB := n0_; have BK118 := n1_; have GW118 := n2_; have GE118 := n3_; clear n0_ n1_ n2_ n3_; clear hb hbox hg; have hcz7_0 : w6.cell? ⟨gb118, 0, none⟩ = some (.int .i64 a0_0) := (blk_cell BK118.out 0).trans rfl; have hcz7_1 : w6.cell? ⟨gb118, 1, none⟩ = some (.int .u64 a0_1) := (blk_cell BK118.out 1).trans rfl; have hcz7_2 : w6.cell? ⟨gb118, 2, none⟩ = some (.int .u64 a0_2) := (blk_cell BK118.out 2).trans rfl; have hcz7_3 : w6.cell? ⟨gb118, 3, none⟩ = some (.slice A0_3 l0_3.length c0_3) := (blk_cell BK118.out 3).trans rfl; have hfz7_0 := blk_frozen BK118.out 0; have hfz7_1 := blk_frozen BK118.out 1; have hfz7_2 := blk_frozen BK118.out 2; have hfz7_3 := blk_frozen BK118.out 3))
          go_ret
          exact ⟨by first | rfl | (simp [errW_none, errW_some] <;> rfl) | (simp [*, errW_none, errW_some] <;> rfl), by repeat (first | (with_reducible first | exact HB.out | apply yA | apply yN | apply yD | refine yS ?_ GE118.out) | exact HB.out)⟩
        · rw [if_neg c5] at H
          have c5b0 : decide (a0_2 ≤ 4611686018427387904) = false := decide_eq_false c5; clear c5; obtain rfl := Option.some.inj H
          go_enter Tryd.func103, Tryd.ntmps103
          go_wp2_with (first | ((with_reducible refine gate_dst (N := 1) rfl ?_); (try (refine gate_guard (by rfl) ?_; dsimp only)); refine box_event ?hg (N := 1) ?hd (cs := #[.int .i64 a0_0, .int .u64 a0_1, .int .u64 a0_2, .slice A0_3 l0_3.length c0_3]) (t := 123) ?hr ?_; (case hd => rfl); (case hg => rfl); (case hr => first | (go_simp; done) | (go_simp; rfl)); intro gb118 hg w8 hbox hb; have n0_ := Aside0.mk (below_step (hx_ HB) hb); have n1_ := Aside0.mk (hbox); have n2_ := Aside0.mk ((by rw [hg]; exact (below_size (hx_ HB)) : w.heap.size ≤ gb118)); have n3_ := Aside0.mk ((by rw [hg]; exact (below_size (hx_ HB)) : w.heap.size ≤ gb118)); clear HB; have HB := n0_; have BK118 := n1_; have GW118 := n2_; have GE118 := n3_; clear n0_ n1_ n2_ n3_; clear hb hbox hg; have hcz9_0 : w8.cell? ⟨gb118, 0, none⟩ = some (.int .i64 a0_0) := (blk_cell BK118.out 0).trans rfl; have hcz9_1 : w8.cell? ⟨gb118, 1, none⟩ = some (.int .u64 a0_1) := (blk_cell BK118.out 1).trans rfl; have hcz9_2 : w8.cell? ⟨gb118, 2, none⟩ = some (.int .u64 a0_2) := (blk_cell BK118.out 2).trans rfl; have hcz9_3 : w8.cell? ⟨gb118, 3, none⟩ = some (.slice A0_3 l0_3.length c0_3) := (blk_cell BK118.out 3).trans rfl; have hfz9_0 := blk_frozen BK118.out 0; have hfz9_1 := blk_frozen BK118.out 1; have hfz9_2 := blk_frozen BK118.out 2; have hfz9_3 := blk_frozen BK118.out 3))
          go_ret
          exact ⟨by first | rfl | (simp [errW_none, errW_some] <;> rfl) | (simp [*, errW_none, errW_some] <;> rfl), by repeat (first | (with_reducible first | exact HB.out | apply yA | apply yN | apply yD | refine yS ?_ GE118.out) | exact HB.out)⟩
      · rw [if_neg c4] at H
        have c4b0 : decide (a0_1 ≤ 4611686018427387904) = false := decide_eq_false c4; clear c4; obtain rfl := Option.some.inj H
        go_enter Tryd.func103, Tryd.ntmps103
        go_wp2_with (first | ((with_reducible refine gate_dst (N := 1) rfl ?_); (try (refine gate_guard (by rfl) ?_; dsimp only)); refine box_event ?hg (N := 1) ?hd (cs := #[.int .i64 a0_0, .int .u64 a0_1, .int .u64 a0_2, .slice A0_3 l0_3.length c0_3]) (t := 123) ?hr ?_; (case hd => rfl); (case hg => rfl); (case hr => first | (go_simp; done) | (go_simp; rfl)); intro gb118 hg w10 hbox hb; have n0_ := Aside0.mk (below_step (hx_ HB) hb); have n1_ := Aside0.mk (hbox); have n2_ := Aside0.mk ((by rw [hg]; exact (below_size (hx_ HB)) : w.heap.size ≤ gb118)); have n3_ := Aside0.mk ((by rw [hg]; exact (below_size (hx_ HB)) : w.heap.size ≤ gb118)); clear HB; have HB := n0_; have BK118 := n1_; have GW118 := n2_; have GE118 := n3_; clear n0_ n1_ n2_ n3_; clear hb hbox hg; have hcz11_0 : w10.cell? ⟨gb118, 0, none⟩ = some (.int .i64 a0_0) := (blk_cell BK118.out 0).trans rfl; have hcz11_1 : w10.cell? ⟨gb118, 1, none⟩ = some (.int .u64 a0_1) := (blk_cell BK118.out 1).trans rfl; have hcz11_2 : w10.cell? ⟨gb118, 2, none⟩ = some (.int .u64 a0_2) := (blk_cell BK118.out 2).trans rfl; have hcz11_3 : w10.cell? ⟨gb118, 3, none⟩ = some (.slice A0_3 l0_3.length c0_3) := (blk_cell BK118.out 3).trans rfl; have hfz11_0 := blk_frozen BK118.out 0; have hfz11_1 := blk_frozen BK118.out 1; have hfz11_2 := blk_frozen BK118.out 2; have hfz11_3 := blk_frozen BK118.out 3))
        go_ret
        exact ⟨by first | rfl | (simp [errW_none, errW_some] <;> rfl) | (simp [*, errW_none, errW_some] <;> rfl), by repeat (first | (with_reducible first | exact HB.out | apply yA | apply yN | apply yD | refine yS ?_ GE118.out) | exact HB.out)⟩
    · rw [if_neg c3] at H
      have c3b0 : decide (1 ≤ a0_1) = false := decide_eq_false c3; clear c3; obtain rfl := Option.some.inj H
      go_enter Tryd.func103, Tryd.ntmps103
      go_wp2_with (first | ((with_reducible refine gate_dst (N := 1) rfl ?_); (try (refine gate_guard (by rfl) ?_; dsimp only)); refine box_event ?hg (N := 1) ?hd (cs := #[.int .i64 a0_0, .int .u64 a0_1, .int .u64 a0_2, .slice A0_3 l0_3.length c0_3]) (t := 123) ?hr ?_; (case hd => rfl); (case hg => rfl); (case hr => first | (go_simp; done) | (go_simp; rfl)); intro gb118 hg w12 hbox hb; have n0_ := Aside0.mk (below_step (hx_ HB) hb); have n1_ := Aside0.mk (hbox); have n2_ := Aside0.mk ((by rw [hg]; exact (below_size (hx_ HB)) : w.heap.size ≤ gb118)); have n3_ := Aside0.mk ((by rw [hg]; exact (below_size (hx_ HB)) : w.heap.size ≤ gb118)); clear HB; have HB := n0_; have BK118 := n1_; have GW118 := n2_; have GE118 := n3_; clear n0_ n1_ n2_ n3_; clear hb hbox hg; have hcz13_0 : w12.cell? ⟨gb118, 0, none⟩ = some (.int .i64 a0_0) := (blk_cell BK118.out 0).trans rfl; have hcz13_1 : w12.cell? ⟨gb118, 1, none⟩ = some (.int .u64 a0_1) := (blk_cell BK118.out 1).trans rfl; have hcz13_2 : w12.cell? ⟨gb118, 2, none⟩ = some (.int .u64 a0_2) := (blk_cell BK118.out 2).trans rfl; have hcz13_3 : w12.cell? ⟨gb118, 3, none⟩ = some (.slice A0_3 l0_3.length c0_3) := (blk_cell BK118.out 3).trans rfl; have hfz13_0 := blk_frozen BK118.out 0; have hfz13_1 := blk_frozen BK118.out 1; have hfz13_2 := blk_frozen BK118.out 2; have hfz13_3 := blk_frozen BK118.out 3))
      go_ret
      exact ⟨by first | rfl | (simp [errW_none, errW_some] <;> rfl) | (simp [*, errW_none, errW_some] <;> rfl), by repeat (first | (with_reducible first | exact HB.out | apply yA | apply yN | apply yD | refine yS ?_ GE118.out) | exact HB.out)⟩
  · rw [if_neg c2] at H
    have c2b0 : (a0_0 == 1) = false := beq_eq_false_iff_ne.mpr c2; have c2b1 : (a0_0 != 1) = true := bne_iff_ne.mpr c2
    by_cases c14 : a0_0 = 2
    · rw [if_pos c14] at H
      have c14b0 : (a0_0 == 2) = true := beq_iff_eq.mpr c14; have c14b1 : (a0_0 != 2) = false := bne_eq_false_iff_eq.mpr c14; clear c14
      by_cases c15 : a0_1 ≥ 1
      · rw [if_pos c15] at H
        have c15b0 : decide (1 ≤ a0_1) = true := decide_eq_true c15; clear c15
        by_cases c16 : a0_1 ≤ 4611686018427387904
        · rw [if_pos c16] at H
          have c16b0 : decide (a0_1 ≤ 4611686018427387904) = true := decide_eq_true c16; clear c16
          by_cases c17 : a0_2 ≤ 4611686018427387904
          · rw [if_pos c17] at H
            have c17b0 : decide (a0_2 ≤ 4611686018427387904) = true := decide_eq_true c17; clear c17; obtain rfl := Option.some.inj H
            go_enter Tryd.func103, Tryd.ntmps103
            go_wp2_with (first | ((with_reducible refine gate_dst (N := 1) rfl ?_); (try (refine gate_guard (by rfl) ?_; dsimp only)); refine box_event ?hg (N := 1) ?hd (cs := #[.int .i64 a0_0, .int .u64 a0_1, .int .u64 a0_2, .slice A0_3 l0_3.length c0_3]) (t := 123) ?hr ?_; (case hd => rfl); (case hg => rfl); (case hr => first | (go_simp; done) | (go_simp; rfl)); intro gb118 hg w18 hbox hb; have n0_ := Aside0.mk (below_step (hx_ HB) hb); have n1_ := Aside0.mk (hbox); have n2_ := Aside0.mk ((by rw [hg]; exact (below_size (hx_ HB)) : w.heap.size ≤ gb118)); have n3_ := Aside0.mk ((by rw [hg]; exact (below_size (hx_ HB)) : w.heap.size ≤ gb118)); clear HB; have HB := n0_; have BK118 := n1_; have GW118 := n2_; have GE118 := n3_; clear n0_ n1_ n2_ n3_; clear hb hbox hg; have hcz19_0 : w18.cell? ⟨gb118, 0, none⟩ = some (.int .i64 a0_0) := (blk_cell BK118.out 0).trans rfl; have hcz19_1 : w18.cell? ⟨gb118, 1, none⟩ = some (.int .u64 a0_1) := (blk_cell BK118.out 1).trans rfl; have hcz19_2 : w18.cell? ⟨gb118, 2, none⟩ = some (.int .u64 a0_2) := (blk_cell BK118.out 2).trans rfl; have hcz19_3 : w18.cell? ⟨gb118, 3, none⟩ = some (.slice A0_3 l0_3.length c0_3) := (blk_cell BK118.out 3).trans rfl; have hfz19_0 := blk_frozen BK118.out 0; have hfz19_1 := blk_frozen BK118.out 1; have hfz19_2 := blk_frozen BK118.out 2; have hfz19_3 := blk_frozen BK118.out 3))
            go_ret
            exact ⟨by first | rfl | (simp [errW_none, errW_some] <;> rfl) | (simp [*, errW_none, errW_some] <;> rfl), by repeat (first | (with_reducible first | exact HB.out | apply yA | apply yN | apply yD | refine yS ?_ GE118.out) | exact HB.out)⟩
          · rw [if_neg c17] at H
            have c17b0 : decide (a0_2 ≤ 4611686018427387904) = false := decide_eq_false c17; clear c17; obtain rfl := Option.some.inj H
            go_enter Tryd.func103, Tryd.ntmps103
            go_wp2_with (first | ((with_reducible refine gate_dst (N := 1) rfl ?_); (try (refine gate_guard (by rfl) ?_; dsimp only)); refine box_event ?hg (N := 1) ?hd (cs := #[.int .i64 a0_0, .int .u64 a0_1, .int .u64 a0_2, .slice A0_3 l0_3.length c0_3]) (t := 123) ?hr ?_; (case hd => rfl); (case hg => rfl); (case hr => first | (go_simp; done) | (go_simp; rfl)); intro gb118 hg w20 hbox hb; have n0_ := Aside0.mk (below_step (hx_ HB) hb); have n1_ := Aside0.mk (hbox); have n2_ := Aside0.mk ((by rw [hg]; exact (below_size (hx_ HB)) : w.heap.size ≤ gb118)); have n3_ := Aside0.mk ((by rw [hg]; exact (below_size (hx_ HB)) : w.heap.size ≤ gb118)); clear HB; have HB := n0_; have BK118 := n1_; have GW118 := n2_; have GE118 := n3_; clear n0_ n1_ n2_ n3_; clear hb hbox hg; have hcz21_0 : w20.cell? ⟨gb118, 0, none⟩ = some (.int .i64 a0_0) := (blk_cell BK118.out 0).trans rfl; have hcz21_1 : w20.cell? ⟨gb118, 1, none⟩ = some (.int .u64 a0_1) := (blk_cell BK118.out 1).trans rfl; have hcz21_2 : w20.cell? ⟨gb118, 2, none⟩ = some (.int .u64 a0_2) := (blk_cell BK118.out 2).trans rfl; have hcz21_3 : w20.cell? ⟨gb118, 3, none⟩ = some (.slice A0_3 l0_3.length c0_3) := (blk_cell BK118.out 3).trans rfl; have hfz21_0 := blk_frozen BK118.out 0; have hfz21_1 := blk_frozen BK118.out 1; have hfz21_2 := blk_frozen BK118.out 2; have hfz21_3 := blk_frozen BK118.out 3))
            go_ret
            exact ⟨by first | rfl | (simp [errW_none, errW_some] <;> rfl) | (simp [*, errW_none, errW_some] <;> rfl), by repeat (first | (with_reducible first | exact HB.out | apply yA | apply yN | apply yD | refine yS ?_ GE118.out) | exact HB.out)⟩
        · rw [if_neg c16] at H
          have c16b0 : decide (a0_1 ≤ 4611686018427387904) = false := decide_eq_false c16; clear c16; obtain rfl := Option.some.inj H
          go_enter Tryd.func103, Tryd.ntmps103
          go_wp2_with (first | ((with_reducible refine gate_dst (N := 1) rfl ?_); (try (refine gate_guard (by rfl) ?_; dsimp only)); refine box_event ?hg (N := 1) ?hd (cs := #[.int .i64 a0_0, .int .u64 a0_1, .int .u64 a0_2, .slice A0_3 l0_3.length c0_3]) (t := 123) ?hr ?_; (case hd => rfl); (case hg => rfl); (case hr => first | (go_simp; done) | (go_simp; rfl)); intro gb118 hg w22 hbox hb; have n0_ := Aside0.mk (below_step (hx_ HB) hb); have n1_ := Aside0.mk (hbox); have n2_ := Aside0.mk ((by rw [hg]; exact (below_size (hx_ HB)) : w.heap.size ≤ gb118)); have n3_ := Aside0.mk ((by rw [hg]; exact (below_size (hx_ HB)) : w.heap.size ≤ gb118)); clear HB; have HB := n0_; have BK118 := n1_; have GW118 := n2_; have GE118 := n3_; clear n0_ n1_ n2_ n3_; clear hb hbox hg; have hcz23_0 : w22.cell? ⟨gb118, 0, none⟩ = some (.int .i64 a0_0) := (blk_cell BK118.out 0).trans rfl; have hcz23_1 : w22.cell? ⟨gb118, 1, none⟩ = some (.int .u64 a0_1) := (blk_cell BK118.out 1).trans rfl; have hcz23_2 : w22.cell? ⟨gb118, 2, none⟩ = some (.int .u64 a0_2) := (blk_cell BK118.out 2).trans rfl; have hcz23_3 : w22.cell? ⟨gb118, 3, none⟩ = some (.slice A0_3 l0_3.length c0_3) := (blk_cell BK118.out 3).trans rfl; have hfz23_0 := blk_frozen BK118.out 0; have hfz23_1 := blk_frozen BK118.out 1; have hfz23_2 := blk_frozen BK118.out 2; have hfz23_3 := blk_frozen BK118.out 3))
          go_ret
          exact ⟨by first | rfl | (simp [errW_none, errW_some] <;> rfl) | (simp [*, errW_none, errW_some] <;> rfl), by repeat (first | (with_reducible first | exact HB.out | apply yA | apply yN | apply yD | refine yS ?_ GE118.out) | exact HB.out)⟩
      · rw [if_neg c15] at H
        have c15b0 : decide (1 ≤ a0_1) = false := decide_eq_false c15; clear c15; obtain rfl := Option.some.inj H
        go_enter Tryd.func103, Tryd.ntmps103
        go_wp2_with (first | ((with_reducible refine gate_dst (N := 1) rfl ?_); (try (refine gate_guard (by rfl) ?_; dsimp only)); refine box_event ?hg (N := 1) ?hd (cs := #[.int .i64 a0_0, .int .u64 a0_1, .int .u64 a0_2, .slice A0_3 l0_3.length c0_3]) (t := 123) ?hr ?_; (case hd => rfl); (case hg => rfl); (case hr => first | (go_simp; done) | (go_simp; rfl)); intro gb118 hg w24 hbox hb; have n0_ := Aside0.mk (below_step (hx_ HB) hb); have n1_ := Aside0.mk (hbox); have n2_ := Aside0.mk ((by rw [hg]; exact (below_size (hx_ HB)) : w.heap.size ≤ gb118)); have n3_ := Aside0.mk ((by rw [hg]; exact (below_size (hx_ HB)) : w.heap.size ≤ gb118)); clear HB; have HB := n0_; have BK118 := n1_; have GW118 := n2_; have GE118 := n3_; clear n0_ n1_ n2_ n3_; clear hb hbox hg; have hcz25_0 : w24.cell? ⟨gb118, 0, none⟩ = some (.int .i64 a0_0) := (blk_cell BK118.out 0).trans rfl; have hcz25_1 : w24.cell? ⟨gb118, 1, none⟩ = some (.int .u64 a0_1) := (blk_cell BK118.out 1).trans rfl; have hcz25_2 : w24.cell? ⟨gb118, 2, none⟩ = some (.int .u64 a0_2) := (blk_cell BK118.out 2).trans rfl; have hcz25_3 : w24.cell? ⟨gb118, 3, none⟩ = some (.slice A0_3 l0_3.length c0_3) := (blk_cell BK118.out 3).trans rfl; have hfz25_0 := blk_frozen BK118.out 0; have hfz25_1 := blk_frozen BK118.out 1; have hfz25_2 := blk_frozen BK118.out 2; have hfz25_3 := blk_frozen BK118.out 3))
        go_ret
        exact ⟨by first | rfl | (simp [errW_none, errW_some] <;> rfl) | (simp [*, errW_none, errW_some] <;> rfl), by repeat (first | (with_reducible first | exact HB.out | apply yA | apply yN | apply yD | refine yS ?_ GE118.out) | exact HB.out)⟩
    · rw [if_neg c14] at H
      have c14b0 : (a0_0 == 2) = false := beq_eq_false_iff_ne.mpr c14; have c14b1 : (a0_0 != 2) = true := bne_iff_ne.mpr c14; obtain rfl := Option.some.inj H
      go_enter Tryd.func103, Tryd.ntmps103
      go_wp2_with (first | ((with_reducible refine gate_dst (N := 1) rfl ?_); (try (refine gate_guard (by rfl) ?_; dsimp only)); refine box_event ?hg (N := 1) ?hd (cs := #[.int .i64 a0_0, .int .u64 a0_1, .int .u64 a0_2, .slice A0_3 l0_3.length c0_3]) (t := 123) ?hr ?_; (case hd => rfl); (case hg => rfl); (case hr => first | (go_simp; done) | (go_simp; rfl)); intro gb118 hg w26 hbox hb; have n0_ := Aside0.mk (below_step (hx_ HB) hb); have n1_ := Aside0.mk (hbox); have n2_ := Aside0.mk ((by rw [hg]; exact (below_size (hx_ HB)) : w.heap.size ≤ gb118)); have n3_ := Aside0.mk ((by rw [hg]; exact (below_size (hx_ HB)) : w.heap.size ≤ gb118)); clear HB; have HB := n0_; have BK118 := n1_; have GW118 := n2_; have GE118 := n3_; clear n0_ n1_ n2_ n3_; clear hb hbox hg; have hcz27_0 : w26.cell? ⟨gb118, 0, none⟩ = some (.int .i64 a0_0) := (blk_cell BK118.out 0).trans rfl; have hcz27_1 : w26.cell? ⟨gb118, 1, none⟩ = some (.int .u64 a0_1) := (blk_cell BK118.out 1).trans rfl; have hcz27_2 : w26.cell? ⟨gb118, 2, none⟩ = some (.int .u64 a0_2) := (blk_cell BK118.out 2).trans rfl; have hcz27_3 : w26.cell? ⟨gb118, 3, none⟩ = some (.slice A0_3 l0_3.length c0_3) := (blk_cell BK118.out 3).trans rfl; have hfz27_0 := blk_frozen BK118.out 0; have hfz27_1 := blk_frozen BK118.out 1; have hfz27_2 := blk_frozen BK118.out 2; have hfz27_3 := blk_frozen BK118.out 3))
      go_ret
      exact ⟨by first | rfl | (simp [errW_none, errW_some] <;> rfl) | (simp [*, errW_none, errW_some] <;> rfl), by repeat (first | (with_reducible first | exact HB.out | apply yA | apply yN | apply yD | refine yS ?_ GE118.out) | exact HB.out)⟩
end Go.Proofs.YtlgfmmkabnbllaaDoor.PA
namespace Go.Proofs.YtlgfmmkabnbllaaDoor.PA
open Go.RowKit Go.Proofs.YtlgfmmkabnbllaaDoorW.PrintWords Go.Proofs.YtlgfmmkabnbllaaDoorW.PrintLast Go.Proofs.YtlgfmmkabnbllaaDoorW.PrintMore
attribute [local go_sem] max2_int min2_int max_two min_two max_three min_three max_four min_four
open Go.Proofs.YtlgfmmkabnbllaaDoor.Hand
set_option linter.unusedVariables false
set_option linter.unusedSimpArgs false
mutual
def tikref2_Get.j0 : Nat → List Int → Int → Bool → Option (Int × Int × Int)
  | 0, _, _, _ => none
  | k + 1, x0, x1, x17 => if x17 = true then (some (0, 0, 1)) else (tikref2_Get.l0 k x0 x1 0 0)
def tikref2_Get.l0 : Nat → List Int → Int → Int → Int → Option (Int × Int × Int)
  | 0, _, _, _, _ => none
  | k + 1, x0, x1, x7, x8 => if x8 < 10 then (if (wrap64 (x1 + x8)) ≥ (x0.length : Int) then (some (0, 0, 3)) else (if 0 ≤ (wrap64 (x1 + x8)) then (if (wrap64 (x1 + x8)) < (x0.length : Int) then (if x8 = 9 then (tikref2_Get.j2 k x0 x1 x7 x8 (IntKind.u64.wrap (rd x0 (wrap64 (x1 + x8)))) (decide ((IntKind.u64.wrap (rd x0 (wrap64 (x1 + x8)))) > 1))) else (tikref2_Get.j2 k x0 x1 x7 x8 (IntKind.u64.wrap (rd x0 (wrap64 (x1 + x8)))) false)) else (none)) else (none))) else (some (0, 0, 2))
def tikref2_Get.j2 : Nat → List Int → Int → Int → Int → Int → Bool → Option (Int × Int × Int)
  | 0, _, _, _, _, _, _ => none
  | k + 1, x0, x1, x7, x8, x9, x40 => if x40 = true then (some (0, 0, 2)) else (if 0 ≤ (IntKind.u64.wrap (wrap64 (7 * x8))) then (if x9 < 128 then (if x9 = 0 then (if x8 > 0 then (some (0, 0, 2)) else (some (Go.bits .or .u64 x7 (shl .u64 (Go.bits .and .u64 x9 127) (IntKind.u64.wrap (wrap64 (7 * x8)))), wrap64 ((wrap64 (x1 + x8)) + 1), 0))) else (some (Go.bits .or .u64 x7 (shl .u64 (Go.bits .and .u64 x9 127) (IntKind.u64.wrap (wrap64 (7 * x8)))), wrap64 ((wrap64 (x1 + x8)) + 1), 0))) else (tikref2_Get.l0 k x0 x1 (Go.bits .or .u64 x7 (shl .u64 (Go.bits .and .u64 x9 127) (IntKind.u64.wrap (wrap64 (7 * x8))))) (wrap64 (x8 + 1)))) else (none))
end
def tikref2_Get.f (k : Nat) (l0 : List Int) (a1 : Int) : Option (Int × Int × Int) := if a1 < 0 then (tikref2_Get.j0 k l0 a1 true) else (tikref2_Get.j0 k l0 a1 (decide (a1 > (l0.length : Int))))
set_option maxHeartbeats 8000000 in
set_option maxRecDepth 100000 in
theorem tikref2_Get.calls (k : Nat) (A0 : Option Addr) (c0 : Nat) (l0 : List Int) (a1 : Int) (r1 : Int) (r2 : Int) (r3 : Int) (w : World) (hr0 : Kd.C (Kd.int .u8) w A0 l0.length l0) (hc0 : l0.length ≤ c0) (h : tikref2_Get.f k l0 a1 = some (r1, r2, r3)) :
    Calls Tryd.prog 101 #[.slice A0 l0.length c0, .int .i64 a1] w fun e w' => e = .returned (.tuple #[.int .u64 r1, .int .i64 r2, .int .i64 r3]) ∧ Drawn0 w w' := by
  have HR0 := Aside0.mk hr0; have HC0 := Aside0.mk hc0; clear hr0 hc0; have H : (if a1 < 0 then (tikref2_Get.j0 k l0 a1 true) else (tikref2_Get.j0 k l0 a1 (decide (a1 > (l0.length : Int))))) = some (r1, r2, r3) := h; clear h; have HC3 := Aside0.mk H; clear H
  go_enter Tryd.func101, Tryd.ntmps101
  go_upto_region 1 with (fail)
  go_cut [17] (fun v17 wc => ∃ (kq : Nat) (x17_2 : Bool), v17 = .bool x17_2 ∧ Aside0 (tikref2_Get.j0 kq l0 a1 x17_2 = some (r1, r2, r3)) ∧ Aside0 (kq ≤ k) ∧ Drawn0 w wc)
  case first =>
    have H := HC3.out; clear HC3
    by_cases c4 : a1 < 0
    · rw [if_pos c4] at H
      have c4b0 : decide (a1 < 0) = true := decide_eq_true c4; clear c4; (first | rw [c4b0] | (simp only [i64_w, i32_w]; rw [c4b0]) | skip); have H' := Aside0.mk H; clear H
      go_wp2
      go_meet
      case rel => exact ⟨_, (true), (by first | rfl | (simp; done) | (simp [*]; done)), H', ⟨by first | omega | exact Nat.le_refl _⟩, by repeat (first | exact Drawn0.refl _ | apply Drawn0.step)⟩
    · rw [if_neg c4] at H
      have c4b0 : decide (a1 < 0) = false := decide_eq_false c4; clear c4; (first | rw [c4b0] | (simp only [i64_w, i32_w]; rw [c4b0]) | skip); have H' := Aside0.mk H; clear H
      go_wp2
      go_meet
      case rel => exact ⟨_, (decide (a1 > (l0.length : Int))), (by first | rfl | (simp; done) | (simp [*]; done)), H', ⟨by first | omega | exact Nat.le_refl _⟩, by repeat (first | exact Drawn0.refl _ | apply Drawn0.step)⟩
  case rest =>
    clear HC3
    try clear c1
    try clear p2
    try clear c4
    try clear c4b0
    obtain ⟨kq, x17_2, rfl, HA, HJ2, ⟨mc2, rfl⟩⟩ := hcut
    cases kq with
    | zero => exact absurd HA.out (by simp [tikref2_Get.j0])
    | succ kj2 =>
      have H := HA.out; clear HA; (simp only [tikref2_Get.j0] at H)
      by_cases c5 : x17_2 = true
      · subst c5
        (have H1 : (some (0, 0, 1)) = some (r1, r2, r3) := by rw [if_pos rfl] at H; exact H); clear H; have H := H1; clear H1; (simp only [Option.some.injEq, Prod.mk.injEq] at H); obtain ⟨rfl, rfl, rfl⟩ := H
        go_wp2
        go_ret3
        exact ⟨by first | rfl | (simp; done) | (simp [*]; done), by repeat (first | exact Drawn0.refl _ | apply Drawn0.step)⟩
      · replace c5 := Bool.eq_false_iff.mpr c5
        subst c5; (have H1 : (tikref2_Get.l0 kj2 l0 a1 0 0) = some (r1, r2, r3) := by rw [if_neg (show ¬ (false = true) by decide)] at H; exact H); clear H; have H := H1; clear H1; have H' := Aside0.mk H; clear H
        go_wp2
        go_loopg [7, 8] kj2 (fun kq v7 v8 w' => ∃ (x7_2 : Int) (x8_2 : Int), v7 = .int .u64 x7_2 ∧ v8 = .int .i64 x8_2 ∧ Aside0 (tikref2_Get.l0 kq l0 a1 x7_2 x8_2 = some (r1, r2, r3)) ∧ Aside0 (kq ≤ kj2) ∧ Drawn0 w w')
        case atStart => exact ⟨(0), (0), (by first | rfl | (simp; done) | (simp [*]; done)), (by first | rfl | (simp; done) | (simp [*]; done)), H', ⟨Nat.le_refl _⟩, by repeat (first | exact Drawn0.refl _ | apply Drawn0.step)⟩
        case round =>
          clear H'
          try clear c1
          try clear c2
          try clear p2
          try clear c4
          try clear c4b0
          try clear c5
          try clear p2
          obtain ⟨x7_2, x8_2, rfl, rfl, HA, HK2, ⟨m2, rfl⟩⟩ := hrel
          cases gk with
          | zero => exact absurd HA.out (by simp [tikref2_Get.l0])
          | succ k2 =>
            have H := HA.out; clear HA; (simp only [tikref2_Get.l0] at H)
            by_cases c6 : x8_2 < 10
            · rw [if_pos c6] at H
              have c6b0 : decide (x8_2 < 10) = true := decide_eq_true c6; clear c6
              by_cases c7 : (wrap64 (a1 + x8_2)) ≥ (l0.length : Int)
              · rw [if_pos c7] at H
                have c7b0 : decide ((l0.length : Int) ≤ (wrap64 (a1 + x8_2))) = true := decide_eq_true c7; clear c7; (simp only [Option.some.injEq, Prod.mk.injEq] at H); obtain ⟨rfl, rfl, rfl⟩ := H
                go_wp2
                go_ret3
                exact ⟨by first | rfl | (simp; done) | (simp [*]; done), by repeat (first | exact Drawn0.refl _ | apply Drawn0.step)⟩
              · rw [if_neg c7] at H
                have c7b0 : decide ((l0.length : Int) ≤ (wrap64 (a1 + x8_2))) = false := decide_eq_false c7; clear c7; (obtain ⟨ji8, hji8⟩ : ∃ j_ : Int, (wrap64 (a1 + x8_2)) = j_ := ⟨_, rfl⟩); (replace H : (if 0 ≤ (ji8) then (if (ji8) < (l0.length : Int) then (if x8_2 = 9 then (tikref2_Get.j2 k2 l0 a1 x7_2 x8_2 (IntKind.u64.wrap (rd l0 (ji8))) (decide ((IntKind.u64.wrap (rd l0 (ji8))) > 1))) else (tikref2_Get.j2 k2 l0 a1 x7_2 x8_2 (IntKind.u64.wrap (rd l0 (ji8))) false)) else (none)) else (none)) = some (r1, r2, r3) := by first | (rw [hji8] at H; exact H) | (simp only [hji8] at H ⊢; exact H)); (try rw [hji8] at c7b0); have hji8w : (IntKind.i64.wrap (a1 + x8_2)) = ji8 := (i64_w _).trans hji8
                by_cases c9 : 0 ≤ (ji8)
                · rw [if_pos c9] at H
                  have c9b0 : decide (0 ≤ (ji8)) = true := decide_eq_true c9; clear c9
                  by_cases c10 : (ji8) < (l0.length : Int)
                  · rw [if_pos c10] at H
                    have c10b0 : decide ((ji8) < (l0.length : Int)) = true := decide_eq_true c10; clear c10; have HC11 := Aside0.mk H; clear H; have p119 : 0 ≤ ((ji8) : Int) := of_decide_eq_true (by first | (with_reducible assumption) | assumption); have q119 : (ji8) < (l0.length : Int) := of_decide_eq_true (by first | (with_reducible assumption) | assumption); obtain ⟨ad119, e119, hx119_0⟩ := Kd.at_int HR0.out (ji8) p119 q119
                    cases e119
                    replace p119 := eq_true p119; replace q119 := eq_true q119
                    go_upto_region 10 with (fail)
                    go_cut [40] (fun v40 wc => ∃ (kq : Nat) (x40_10 : Bool), v40 = .bool x40_10 ∧ Aside0 (tikref2_Get.j2 kq l0 a1 x7_2 x8_2 (IntKind.u64.wrap (rd l0 (ji8))) x40_10 = some (r1, r2, r3)) ∧ Aside0 (kq ≤ k2) ∧ Drawn0 w wc)
                    case first =>
                      have H := HC11.out; clear HC11
                      by_cases c12 : x8_2 = 9
                      · rw [if_pos c12] at H
                        have c12b0 : (x8_2 == 9) = true := beq_iff_eq.mpr c12; have c12b1 : (x8_2 != 9) = false := bne_eq_false_iff_eq.mpr c12; clear c12; (first | rw [c12b0] | (simp only [i64_w, i32_w]; rw [c12b0]) | skip); have H' := Aside0.mk H; clear H
                        go_wp2
                        go_meet
                        case rel => exact ⟨_, (decide ((IntKind.u64.wrap (rd l0 (ji8))) > 1)), (by first | rfl | (simp; done) | (simp only [← hji8] <;> (first | rfl | simp)) | (simp [*]; done)), H', ⟨by have := HJ2.out; have := HK2.out; first | omega | exact Nat.le_refl _⟩, by repeat (first | exact Drawn0.refl _ | apply Drawn0.step)⟩
                      · rw [if_neg c12] at H
                        have c12b0 : (x8_2 == 9) = false := beq_eq_false_iff_ne.mpr c12; have c12b1 : (x8_2 != 9) = true := bne_iff_ne.mpr c12; (first | rw [c12b0] | (simp only [i64_w, i32_w]; rw [c12b0]) | skip); have H' := Aside0.mk H; clear H
                        go_wp2
                        go_meet
                        case rel => exact ⟨_, (false), (by first | rfl | (simp; done) | (simp [*]; done)), H', ⟨by have := HJ2.out; have := HK2.out; first | omega | exact Nat.le_refl _⟩, by repeat (first | exact Drawn0.refl _ | apply Drawn0.step)⟩
                    case rest =>
                      clear HC11
                      try clear c1
                      try clear p1
                      try clear q1
                      try clear hx1
                      try clear c2
                      try clear p2
                      try clear c4
                      try clear c4b0
                      try clear c5
                      try clear c6
                      try clear c6b0
                      try clear p6
                      try clear c7
                      try clear c7b0
                      try clear c9
                      try clear c9b0
                      try clear c10
                      try clear c10b0
                      try clear p11
                      try clear q11
                      try clear hx11
                      try clear c12
                      try clear c12b0
                      try clear c12b1
                      try clear hx119_0
                      try clear p119
                      try clear p2
                      try clear q119
                      obtain ⟨kq, x40_10, rfl, HA, HJ10, ⟨mc10, rfl⟩⟩ := hcut
                      cases kq with
                      | zero => exact absurd HA.out (by simp [tikref2_Get.j2])
                      | succ kj10 =>
                        have H := HA.out; clear HA; (simp only [tikref2_Get.j2] at H)
                        by_cases c13 : x40_10 = true
                        · subst c13
                          (have H1 : (some (0, 0, 2)) = some (r1, r2, r3) := by rw [if_pos rfl] at H; exact H); clear H; have H := H1; clear H1; (simp only [Option.some.injEq, Prod.mk.injEq] at H); obtain ⟨rfl, rfl, rfl⟩ := H
                          go_wp2
                          go_ret3
                          exact ⟨by first | rfl | (simp; done) | (simp only [← hji8] <;> (first | rfl | simp)) | (simp [*]; done), by repeat (first | exact Drawn0.refl _ | apply Drawn0.step)⟩
                        · replace c13 := Bool.eq_false_iff.mpr c13
                          subst c13; (have H1 : (if 0 ≤ (IntKind.u64.wrap (wrap64 (7 * x8_2))) then (if (IntKind.u64.wrap (rd l0 (ji8))) < 128 then (if (IntKind.u64.wrap (rd l0 (ji8))) = 0 then (if x8_2 > 0 then (some (0, 0, 2)) else (some (Go.bits .or .u64 x7_2 (shl .u64 (Go.bits .and .u64 (IntKind.u64.wrap (rd l0 (ji8))) 127) (IntKind.u64.wrap (wrap64 (7 * x8_2)))), wrap64 ((wrap64 (a1 + x8_2)) + 1), 0))) else (some (Go.bits .or .u64 x7_2 (shl .u64 (Go.bits .and .u64 (IntKind.u64.wrap (rd l0 (ji8))) 127) (IntKind.u64.wrap (wrap64 (7 * x8_2)))), wrap64 ((wrap64 (a1 + x8_2)) + 1), 0))) else (tikref2_Get.l0 kj10 l0 a1 (Go.bits .or .u64 x7_2 (shl .u64 (Go.bits .and .u64 (IntKind.u64.wrap (rd l0 (ji8))) 127) (IntKind.u64.wrap (wrap64 (7 * x8_2))))) (wrap64 (x8_2 + 1)))) else (none)) = some (r1, r2, r3) := by rw [if_neg (show ¬ (false = true) by decide)] at H; exact H); clear H; have H := H1; clear H1; (obtain ⟨ji14, hji14⟩ : ∃ j_ : Int, (IntKind.u64.wrap (wrap64 (7 * x8_2))) = j_ := ⟨_, rfl⟩); (replace H : (if 0 ≤ (ji14) then (if (IntKind.u64.wrap (rd l0 (ji8))) < 128 then (if (IntKind.u64.wrap (rd l0 (ji8))) = 0 then (if x8_2 > 0 then (some (0, 0, 2)) else (some (Go.bits .or .u64 x7_2 (shl .u64 (Go.bits .and .u64 (IntKind.u64.wrap (rd l0 (ji8))) 127) (ji14)), wrap64 ((wrap64 (a1 + x8_2)) + 1), 0))) else (some (Go.bits .or .u64 x7_2 (shl .u64 (Go.bits .and .u64 (IntKind.u64.wrap (rd l0 (ji8))) 127) (ji14)), wrap64 ((wrap64 (a1 + x8_2)) + 1), 0))) else (tikref2_Get.l0 kj10 l0 a1 (Go.bits .or .u64 x7_2 (shl .u64 (Go.bits .and .u64 (IntKind.u64.wrap (rd l0 (ji8))) 127) (ji14))) (wrap64 (x8_2 + 1)))) else (none)) = some (r1, r2, r3) := by first | (rw [hji14] at H; exact H) | (simp only [hji14] at H ⊢; exact H))
                          by_cases c15 : 0 ≤ (ji14)
                          · rw [if_pos c15] at H
                            have c15b0 := eq_true c15; have c15b1 : decide (0 ≤ (ji14)) = true := decide_eq_true c15; clear c15; (obtain ⟨ji16, hji16⟩ : ∃ j_ : Int, (shl .u64 (Go.bits .and .u64 (IntKind.u64.wrap (rd l0 (ji8))) 127) (ji14)) = j_ := ⟨_, rfl⟩); (replace H : (if (IntKind.u64.wrap (rd l0 (ji8))) < 128 then (if (IntKind.u64.wrap (rd l0 (ji8))) = 0 then (if x8_2 > 0 then (some (0, 0, 2)) else (some (Go.bits .or .u64 x7_2 (ji16), wrap64 ((wrap64 (a1 + x8_2)) + 1), 0))) else (some (Go.bits .or .u64 x7_2 (ji16), wrap64 ((wrap64 (a1 + x8_2)) + 1), 0))) else (tikref2_Get.l0 kj10 l0 a1 (Go.bits .or .u64 x7_2 (ji16)) (wrap64 (x8_2 + 1)))) = some (r1, r2, r3) := by first | (rw [hji16] at H; exact H) | (simp only [hji16] at H ⊢; exact H)); have hji16_ : (IntKind.u64.wrap ((Go.bits .and .u64 (IntKind.u64.wrap (rd l0 (ji8))) 127) * 2 ^ min (ji14).toNat 64)) = ji16 := hji16; have hji16z : (ji14) ≤ 64 → (IntKind.u64.wrap ((Go.bits .and .u64 (IntKind.u64.wrap (rd l0 (ji8))) 127) * 2 ^ (ji14).toNat)) = ji16 := shl_small hji16
                            by_cases c17 : (IntKind.u64.wrap (rd l0 (ji8))) < 128
                            · rw [if_pos c17] at H
                              have c17b0 : decide ((IntKind.u64.wrap (rd l0 (ji8))) < 128) = true := decide_eq_true c17; clear c17
                              by_cases c18 : (IntKind.u64.wrap (rd l0 (ji8))) = 0
                              · rw [if_pos c18] at H
                                have c18b0 : ((IntKind.u64.wrap (rd l0 (ji8))) == 0) = true := beq_iff_eq.mpr c18; have c18b1 : ((IntKind.u64.wrap (rd l0 (ji8))) != 0) = false := bne_eq_false_iff_eq.mpr c18; clear c18
                                by_cases c19 : x8_2 > 0
                                · rw [if_pos c19] at H
                                  have c19b0 : decide (0 < x8_2) = true := decide_eq_true c19; clear c19; (simp only [Option.some.injEq, Prod.mk.injEq] at H); obtain ⟨rfl, rfl, rfl⟩ := H
                                  go_wp2
                                  go_ret3
                                  exact ⟨by first | rfl | (simp; done) | (simp only [← hji8, ← hji14, ← hji16] <;> (first | rfl | simp)) | (simp [*]; done), by repeat (first | exact Drawn0.refl _ | apply Drawn0.step)⟩
                                · rw [if_neg c19] at H
                                  have c19b0 : decide (0 < x8_2) = false := decide_eq_false c19; clear c19; (simp only [Option.some.injEq, Prod.mk.injEq] at H); obtain ⟨rfl, rfl, rfl⟩ := H
                                  go_wp2
                                  go_ret3
                                  exact ⟨by first | rfl | (simp; done) | (simp only [← hji8, ← hji14, ← hji16] <;> (first | rfl | simp)) | (simp [*]; done), by repeat (first | exact Drawn0.refl _ | apply Drawn0.step)⟩
                              · rw [if_neg c18] at H
                                have c18b0 : ((IntKind.u64.wrap (rd l0 (ji8))) == 0) = false := beq_eq_false_iff_ne.mpr c18; have c18b1 : ((IntKind.u64.wrap (rd l0 (ji8))) != 0) = true := bne_iff_ne.mpr c18; (simp only [Option.some.injEq, Prod.mk.injEq] at H); obtain ⟨rfl, rfl, rfl⟩ := H
                                go_wp2
                                go_ret3
                                exact ⟨by first | rfl | (simp; done) | (simp only [← hji8, ← hji14, ← hji16] <;> (first | rfl | simp)) | (simp [*]; done), by repeat (first | exact Drawn0.refl _ | apply Drawn0.step)⟩
                            · rw [if_neg c17] at H
                              have c17b0 : decide ((IntKind.u64.wrap (rd l0 (ji8))) < 128) = false := decide_eq_false c17; clear c17; have H' := Aside0.mk H; clear H
                              go_wp2
                              go_roundg kj10
                              case measure => have := HJ2.out; have := HK2.out; have := HJ10.out; omega
                              case rel => exact ⟨(Go.bits .or .u64 x7_2 (ji16)), (wrap64 (x8_2 + 1)), (by first | rfl | (simp; done) | (simp only [← hji16] <;> (first | rfl | simp)) | (simp [*]; done)), (by first | rfl | (simp; done) | (simp [*]; done)), H', ⟨by have := HJ2.out; have := HK2.out; have := HJ10.out; omega⟩, by repeat (first | exact Drawn0.refl _ | apply Drawn0.step)⟩
                          · rw [if_neg c15] at H
                            exact absurd H (by simp)
                  · rw [if_neg c10] at H
                    exact absurd H (by simp)
                · rw [if_neg c9] at H
                  exact absurd H (by simp)
            · rw [if_neg c6] at H
              have c6b0 : decide (x8_2 < 10) = false := decide_eq_false c6; clear c6; (simp only [Option.some.injEq, Prod.mk.injEq] at H); obtain ⟨rfl, rfl, rfl⟩ := H
              go_wp2
              go_ret3
              exact ⟨by first | rfl | (simp; done) | (simp [*]; done), by repeat (first | exact Drawn0.refl _ | apply Drawn0.step)⟩
def tikref2_Four.f (a0 : Int) : Option (List Int) := some (([(a0 / 16777216) % 256, (a0 / 65536) % 256, (a0 / 256) % 256, (a0) % 256] : List Int))
set_option maxHeartbeats 8000000 in
set_option maxRecDepth 100000 in
theorem tikref2_Four.calls (a0 : Int) (r : List Int) (w : World) (h : tikref2_Four.f a0 = some r) :
    Calls Tryd.prog 66 #[.int .u32 a0] w fun e w' => ∃ v0_ : Value, e = .returned (v0_) ∧ Kd.R (Kd.int .u8) 5 w' w.heap.size (fun _ => True) v0_ r ∧ Below w.heap.size w w' := by
  have HB := Aside0.mk (Below.refl w.heap.size w); have H : (some (([(a0 / 16777216) % 256, (a0 / 65536) % 256, (a0 / 256) % 256, (a0) % 256] : List Int))) = some r := h; clear h; (obtain ⟨y120, hy120⟩ : ∃ y_ : List Int, y_ = (([(a0 / 16777216) % 256, (a0 / 65536) % 256, (a0 / 256) % 256, (a0) % 256] : List Int)) := ⟨_, rfl⟩); (replace H : (some y120) = some r := by first | (rw [hy120]; with_reducible exact H) | (have H2_ := (Option.bind_some _ _).symm.trans H; rw [hy120]; with_reducible exact H2_) | (have H2_ := (Option.bind_some _ _).symm.trans H; with_reducible exact H2_) | with_reducible exact H | (rw [hy120]; exact H) | exact H); have Ny120 := Aside0.mk hy120; clear hy120; obtain rfl := Option.some.inj H
  go_enter Tryd.func66, Tryd.ntmps66
  go_wp2_with (first | ((with_reducible refine gate_dst (N := 14) rfl ?_); refine Kd.R_lit (Kd.int .u8) _ 5 ?hg (N := 14) ?hd (xs := ([(a0 / 16777216) % 256, (a0 / 65536) % 256, (a0 / 256) % 256, (a0) % 256] : List Int)) (inner := [.int .u8 ((a0 / 16777216) % 256), .int .u8 ((a0 / 65536) % 256), .int .u8 ((a0 / 256) % 256), .int .u8 ((a0) % 256)]) (ok := fun _ => True) (okp := fun _ => True) ?hr ?hp (fun _ hk => hk) trivial (Below.refl _ _) (Nat.le_refl _) (by simp) ?_; (case hd => rfl); (case hg => rfl); (case hr => first | (go_simp; done) | (go_simp; rfl)); (case hp => exact (Reps.one (show Kd.M (Kd.int .u8) _ _ _ ((a0 / 16777216) % 256) [.int .u8 ((a0 / 16777216) % 256)] from rfl) (Reps.one (show Kd.M (Kd.int .u8) _ _ _ ((a0 / 65536) % 256) [.int .u8 ((a0 / 65536) % 256)] from rfl) (Reps.one (show Kd.M (Kd.int .u8) _ _ _ ((a0 / 256) % 256) [.int .u8 ((a0 / 256) % 256)] from rfl) (Reps.one (show Kd.M (Kd.int .u8) _ _ _ ((a0) % 256) [.int .u8 ((a0) % 256)] from rfl) (Reps.none _ _)))))); intro v121 w2 ho3 hb hg_ hnew_; clear hg_ hnew_; (first | rw [← Ny120.out] at ho3 | (simp only [Int.reduceToNat] at ho3; rw [← Ny120.out] at ho3)); have n0_ := Aside0.mk (Kd.R_lower ho3 (below_size (hx_ HB))); have n1_ := Aside0.mk (below_step (hx_ HB) hb); clear HB; have HO122 := n0_; have HB := n1_; clear n0_ n1_; clear hb ho3))
  go_ret
  exact ⟨_, by first | rfl | (simp [errW_none, errW_some] <;> rfl) | (simp [*, errW_none, errW_some] <;> rfl), by (with_reducible repeat first | apply rA_ | apply rN_ | apply rD_); exact HO122.out, by repeat (first | (with_reducible first | exact HB.out | apply yA | apply yN | apply yD) | exact HB.out)⟩
mutual
def tikref2_Crc.l0 : Nat → List Int → Int → Int → Option (Int)
  | 0, _, _, _ => none
  | k + 1, x0, x3, x4 => if x4 < (x0.length : Int) then (if 0 ≤ x4 then (tikref2_Crc.l1 k x0 (Go.bits .xor .u32 x3 ((rd x0 x4) % 4294967296)) x4 0) else (none)) else (some (Go.bits .xor .u32 4294967295 x3))
def tikref2_Crc.l1 : Nat → List Int → Int → Int → Int → Option (Int)
  | 0, _, _, _, _ => none
  | k + 1, x0, x3, x4, x5 => if x5 < 8 then (if (Go.bits .and .u32 x3 1) = 1 then (tikref2_Crc.l1 k x0 (Go.bits .xor .u32 (x3 / 2) 3988292384) x4 (wrap64 (x5 + 1))) else (tikref2_Crc.l1 k x0 (x3 / 2) x4 (wrap64 (x5 + 1)))) else (tikref2_Crc.l0 k x0 x3 (wrap64 (x4 + 1)))
end
def tikref2_Crc.f (k : Nat) (l0 : List Int) : Option (Int) := tikref2_Crc.l0 k l0 4294967295 0
set_option maxHeartbeats 8000000 in
set_option maxRecDepth 100000 in
theorem tikref2_Crc.calls (k : Nat) (A0 : Option Addr) (c0 : Nat) (l0 : List Int) (r : Int) (w : World) (hr0 : Kd.C (Kd.int .u8) w A0 l0.length l0) (hc0 : l0.length ≤ c0) (h : tikref2_Crc.f k l0 = some r) :
    Calls Tryd.prog 68 #[.slice A0 l0.length c0] w fun e w' => e = .returned (.int .u32 r) ∧ Drawn0 w w' := by
  have HR0 := Aside0.mk hr0; have HC0 := Aside0.mk hc0; clear hr0 hc0; have H : (tikref2_Crc.l0 k l0 4294967295 0) = some r := h; clear h; have H' := Aside0.mk H; clear H
  go_enter Tryd.func68, Tryd.ntmps68
  go_wp2
  go_loopg [3, 4] k (fun kq v3 v4 w' => ∃ (x3_1 : Int) (x4_1 : Int), v3 = .int .u32 x3_1 ∧ v4 = .int .i64 x4_1 ∧ Aside0 (tikref2_Crc.l0 kq l0 x3_1 x4_1 = some r) ∧ Aside0 (kq ≤ k) ∧ Drawn0 w w')
  case atStart => exact ⟨(4294967295), (0), (by first | rfl | (simp; done) | (simp [*]; done)), (by first | rfl | (simp; done) | (simp [*]; done)), H', ⟨Nat.le_refl _⟩, by repeat (first | exact Drawn0.refl _ | apply Drawn0.step)⟩
  case round =>
    clear H'; obtain ⟨x3_1, x4_1, rfl, rfl, HA, HK1, ⟨m1, rfl⟩⟩ := hrel
    cases gk with
    | zero => exact absurd HA.out (by simp [tikref2_Crc.l0])
    | succ k1 =>
      have H := HA.out; clear HA; (simp only [tikref2_Crc.l0] at H)
      by_cases c2 : x4_1 < (l0.length : Int)
      · rw [if_pos c2] at H
        have c2b0 : decide (x4_1 < (l0.length : Int)) = true := decide_eq_true c2; clear c2
        by_cases c3 : 0 ≤ x4_1
        · rw [if_pos c3] at H
          have c3b0 : decide (0 ≤ x4_1) = true := decide_eq_true c3; clear c3; have H' := Aside0.mk H; clear H; have p123 : 0 ≤ (x4_1 : Int) := of_decide_eq_true (by first | (with_reducible assumption) | assumption); have q123 : x4_1 < (l0.length : Int) := of_decide_eq_true (by first | (with_reducible assumption) | assumption); obtain ⟨ad123, e123, hx123_0⟩ := Kd.at_int HR0.out x4_1 p123 q123
          cases e123
          replace p123 := eq_true p123; replace q123 := eq_true q123
          go_wp2
          go_loopg [3, 5] k1 (fun kq v3 v5 w' => ∃ (x3_2 : Int) (x5_2 : Int), v3 = .int .u32 x3_2 ∧ v5 = .int .i64 x5_2 ∧ Aside0 (tikref2_Crc.l1 kq l0 x3_2 x4_1 x5_2 = some r) ∧ Aside0 (kq ≤ k1) ∧ Drawn0 w w')
          case atStart => exact ⟨(Go.bits .xor .u32 x3_1 ((rd l0 x4_1) % 4294967296)), (0), (by first | rfl | (simp; done) | (simp [*]; done)), (by first | rfl | (simp; done) | (simp [*]; done)), H', ⟨Nat.le_refl _⟩, by repeat (first | exact Drawn0.refl _ | apply Drawn0.step)⟩
          case round =>
            clear H'
            try clear p1
            try clear q1
            try clear hx1
            try clear c2
            try clear c2b0
            try clear p2
            try clear c3
            try clear c3b0
            try clear hx123_0
            try clear p123
            try clear q123
            obtain ⟨x3_2, x5_2, rfl, rfl, HA, HK2, ⟨m2, rfl⟩⟩ := hrel
            cases gk with
            | zero => exact absurd HA.out (by simp [tikref2_Crc.l1])
            | succ k2 =>
              have H := HA.out; clear HA; (simp only [tikref2_Crc.l1] at H)
              by_cases c4 : x5_2 < 8
              · rw [if_pos c4] at H
                have c4b0 : decide (x5_2 < 8) = true := decide_eq_true c4; clear c4
                by_cases c5 : (Go.bits .and .u32 x3_2 1) = 1
                · rw [if_pos c5] at H
                  have c5b0 : ((Go.bits .and .u32 x3_2 1) == 1) = true := beq_iff_eq.mpr c5; have c5b1 : ((Go.bits .and .u32 x3_2 1) != 1) = false := bne_eq_false_iff_eq.mpr c5; clear c5; have H' := Aside0.mk H; clear H
                  go_wp2
                  go_roundg k2
                  case measure => have := HK1.out; have := HK2.out; omega
                  case rel => exact ⟨(Go.bits .xor .u32 (x3_2 / 2) 3988292384), (wrap64 (x5_2 + 1)), (by first | rfl | (simp; done) | (simp [*]; done)), (by first | rfl | (simp; done) | (simp [*]; done)), H', ⟨by have := HK1.out; have := HK2.out; omega⟩, by repeat (first | exact Drawn0.refl _ | apply Drawn0.step)⟩
                · rw [if_neg c5] at H
                  have c5b0 : ((Go.bits .and .u32 x3_2 1) == 1) = false := beq_eq_false_iff_ne.mpr c5; have c5b1 : ((Go.bits .and .u32 x3_2 1) != 1) = true := bne_iff_ne.mpr c5; have H' := Aside0.mk H; clear H
                  go_wp2
                  go_roundg k2
                  case measure => have := HK1.out; have := HK2.out; omega
                  case rel => exact ⟨(x3_2 / 2), (wrap64 (x5_2 + 1)), (by first | rfl | (simp; done) | (simp [*]; done)), (by first | rfl | (simp; done) | (simp [*]; done)), H', ⟨by have := HK1.out; have := HK2.out; omega⟩, by repeat (first | exact Drawn0.refl _ | apply Drawn0.step)⟩
              · rw [if_neg c4] at H
                have c4b0 : decide (x5_2 < 8) = false := decide_eq_false c4; clear c4; have H' := Aside0.mk H; clear H
                go_wp2
                go_roundg k2
                case measure => have := HK1.out; have := HK2.out; omega
                case rel => exact ⟨(x3_2), (wrap64 (x4_1 + 1)), (by first | rfl | (simp; done) | (simp [*]; done)), (by first | rfl | (simp; done) | (simp [*]; done)), H', ⟨by have := HK1.out; have := HK2.out; omega⟩, by repeat (first | exact Drawn0.refl _ | apply Drawn0.step)⟩
        · rw [if_neg c3] at H
          exact absurd H (by simp)
      · rw [if_neg c2] at H
        have c2b0 : decide (x4_1 < (l0.length : Int)) = false := decide_eq_false c2; clear c2; obtain rfl := Option.some.inj H
        go_wp2
        go_ret
        exact ⟨by first | rfl | (simp; done) | (simp [*]; done), by repeat (first | exact Drawn0.refl _ | apply Drawn0.step)⟩
def tikref2_Big.l0 : Nat → List Int → Int → Int → Option (Int)
  | 0, _, _, _ => none
  | k + 1, x0, x3, x4 => if x4 < (x0.length : Int) then (if 0 ≤ x4 then (tikref2_Big.l0 k x0 (Go.bits .or .u64 (IntKind.u64.wrap (x3 * 256)) (IntKind.u64.wrap (rd x0 x4))) (wrap64 (x4 + 1))) else (none)) else (some x3)
def tikref2_Big.f (k : Nat) (l0 : List Int) : Option (Int) := tikref2_Big.l0 k l0 0 0
set_option maxHeartbeats 8000000 in
set_option maxRecDepth 100000 in
theorem tikref2_Big.calls (k : Nat) (A0 : Option Addr) (c0 : Nat) (l0 : List Int) (r : Int) (w : World) (hr0 : Kd.C (Kd.int .u8) w A0 l0.length l0) (hc0 : l0.length ≤ c0) (h : tikref2_Big.f k l0 = some r) :
    Calls Tryd.prog 72 #[.slice A0 l0.length c0] w fun e w' => e = .returned (.int .u64 r) ∧ Drawn0 w w' := by
  have HR0 := Aside0.mk hr0; have HC0 := Aside0.mk hc0; clear hr0 hc0; have H : (tikref2_Big.l0 k l0 0 0) = some r := h; clear h; have H' := Aside0.mk H; clear H
  go_enter Tryd.func72, Tryd.ntmps72
  go_wp2
  go_loopg [3, 4] k (fun kq v3 v4 w' => ∃ (x3_1 : Int) (x4_1 : Int), v3 = .int .u64 x3_1 ∧ v4 = .int .i64 x4_1 ∧ Aside0 (tikref2_Big.l0 kq l0 x3_1 x4_1 = some r) ∧ Aside0 (kq ≤ k) ∧ Drawn0 w w')
  case atStart => exact ⟨(0), (0), (by first | rfl | (simp; done) | (simp [*]; done)), (by first | rfl | (simp; done) | (simp [*]; done)), H', ⟨Nat.le_refl _⟩, by repeat (first | exact Drawn0.refl _ | apply Drawn0.step)⟩
  case round =>
    clear H'; obtain ⟨x3_1, x4_1, rfl, rfl, HA, HK1, ⟨m1, rfl⟩⟩ := hrel
    cases gk with
    | zero => exact absurd HA.out (by simp [tikref2_Big.l0])
    | succ k1 =>
      have H := HA.out; clear HA; (simp only [tikref2_Big.l0] at H)
      by_cases c2 : x4_1 < (l0.length : Int)
      · rw [if_pos c2] at H
        have c2b0 : decide (x4_1 < (l0.length : Int)) = true := decide_eq_true c2; clear c2
        by_cases c3 : 0 ≤ x4_1
        · rw [if_pos c3] at H
          have c3b0 : decide (0 ≤ x4_1) = true := decide_eq_true c3; clear c3; have H' := Aside0.mk H; clear H; have p124 : 0 ≤ (x4_1 : Int) := of_decide_eq_true (by first | (with_reducible assumption) | assumption); have q124 : x4_1 < (l0.length : Int) := of_decide_eq_true (by first | (with_reducible assumption) | assumption); obtain ⟨ad124, e124, hx124_0⟩ := Kd.at_int HR0.out x4_1 p124 q124
          cases e124
          replace p124 := eq_true p124; replace q124 := eq_true q124
          go_wp2
          go_roundg k1
          case measure => have := HK1.out; omega
          case rel => exact ⟨(Go.bits .or .u64 (IntKind.u64.wrap (x3_1 * 256)) (IntKind.u64.wrap (rd l0 x4_1))), (wrap64 (x4_1 + 1)), (by first | rfl | (simp; done) | (simp [*]; done)), (by first | rfl | (simp; done) | (simp [*]; done)), H', ⟨by have := HK1.out; omega⟩, by repeat (first | exact Drawn0.refl _ | apply Drawn0.step)⟩
        · rw [if_neg c3] at H
          exact absurd H (by simp)
      · rw [if_neg c2] at H
        have c2b0 : decide (x4_1 < (l0.length : Int)) = false := decide_eq_false c2; clear c2; obtain rfl := Option.some.inj H
        go_wp2
        go_ret
        exact ⟨by first | rfl | (simp; done) | (simp [*]; done), by repeat (first | exact Drawn0.refl _ | apply Drawn0.step)⟩
def tikref_CopyBytes.f (l0 : List Int) : Option (List Int) := (some (([] : List Int) : List Int)).bind fun y125 => (if y125.length + l0.length < 140737488355328 then (some (y125 ++ l0)) else (none))
set_option maxHeartbeats 8000000 in
set_option maxRecDepth 100000 in
theorem tikref_CopyBytes.calls (A0 : Option Addr) (c0 : Nat) (l0 : List Int) (r : List Int) (w : World) (hr0 : Kd.C (Kd.int .u8) w A0 l0.length l0) (hc0 : l0.length ≤ c0) (h : tikref_CopyBytes.f l0 = some r) :
    Calls Tryd.prog 102 #[.slice A0 l0.length c0] w fun e w' => ∃ v0_ : Value, e = .returned (v0_) ∧ Kd.R (Kd.int .u8) 5 w' w.heap.size (fun _ => True) v0_ r ∧ Below w.heap.size w w' := by
  have HR0 := Aside0.mk hr0; have HC0 := Aside0.mk hc0; clear hr0 hc0; have HB := Aside0.mk (Below.refl w.heap.size w); have H : ((some (([] : List Int) : List Int)).bind fun y125 => (if y125.length + l0.length < 140737488355328 then (some (y125 ++ l0)) else (none))) = some r := h; clear h; (obtain ⟨y125, hy125⟩ : ∃ y_ : List Int, y_ = (([] : List Int)) := ⟨_, rfl⟩); (replace H : (if y125.length + l0.length < 140737488355328 then (some (y125 ++ l0)) else (none)) = some r := by first | (rw [hy125]; with_reducible exact H) | (have H2_ := (Option.bind_some _ _).symm.trans H; rw [hy125]; with_reducible exact H2_) | (have H2_ := (Option.bind_some _ _).symm.trans H; with_reducible exact H2_) | with_reducible exact H | (rw [hy125]; exact H) | exact H); have Ny125 := Aside0.mk hy125; clear hy125
  by_cases c2 : y125.length + l0.length < 140737488355328
  · rw [if_pos c2] at H
    have LMc2 := Aside0.mk c2; clear c2; (obtain ⟨y128, hy128⟩ : ∃ y_ : List Int, y_ = (y125 ++ l0) := ⟨_, rfl⟩); (replace H : (some y128) = some r := by first | (rw [hy128]; with_reducible exact H) | (have H2_ := (Option.bind_some _ _).symm.trans H; rw [hy128]; with_reducible exact H2_) | (have H2_ := (Option.bind_some _ _).symm.trans H; with_reducible exact H2_) | with_reducible exact H | (rw [hy128]; exact H) | exact H); have Ny128 := Aside0.mk hy128; clear hy128; obtain rfl := Option.some.inj H
    go_enter Tryd.func102, Tryd.ntmps102
    go_wp2_with (first | ((with_reducible refine gate_dst (N := 3) rfl ?_); refine Kd.R_lit (Kd.int .u8) _ 5 ?hg (N := 3) ?hd (xs := ([] : List Int)) (inner := []) (ok := fun _ => True) (okp := fun _ => True) ?hr ?hp (fun _ hk => hk) trivial (Below.refl _ _) (Nat.le_refl _) (by simp) ?_; (case hd => rfl); (case hg => rfl); (case hr => first | (go_simp; done) | (go_simp; rfl)); (case hp => exact (Reps.none _ _)); intro v126 w3 ho4 hb hg_ hnew_; clear hg_ hnew_; (first | rw [← Ny125.out] at ho4 | (simp only [Int.reduceToNat] at ho4; rw [← Ny125.out] at ho4)); have n0_ := Aside0.mk (Kd.R_lower ho4 (below_size (hx_ HB))); have n1_ := Aside0.mk (below_step (hx_ HB) hb); clear HB; have HO127 := n0_; have HB := n1_; clear n0_ n1_; clear hb ho4) | ((with_reducible refine gate_builtin (b := .append) (xs := #[.tmp 3, .tmp 4]) rfl ?_); at_builtin; refine Kd.R_append_rows (Kd.int .u8) (w0 := w) w.heap.size rfl (.tmp 3) (.tmp 4) 64 5 (.int .u8 0) 1 rfl Tryd.underlying64 info5 rfl (by decide) (by omega) v126 y125 l0 _ _ _ (fun _ => True) (fun _ => False) rfl rfl ?aO ?aR (fun _ _ h => h) (fun _ h => h.elim) ?aF ?aB ?aS ?aL ?_; (case aR => repeat (first | exact (Kd.C_below HR0.out HB.out) | (with_reducible refine Kd.C_alloc ?_ _) | (with_reducible refine Kd.C_drewN ?_ _) | (with_reducible refine Kd.C_drew ?_))); (case aB => exact (hx_ HB)); (case aF => exact (fun _ _ => trivial)); (case aO => exact (rx_ HO127)); (case aS => exact (below_size (hx_ HB))); (case aL => have := LMc2.out; omega); intro v129 w5 ho hb hg hat; rw [← Ny128.out] at ho; have n0_ := Aside0.mk (hb); have n1_ := Aside0.mk (ho); clear HB; clear HO127; have HB := n0_; have HO130 := n1_; clear n0_ n1_; clear ho hb hg hat))
    go_ret
    exact ⟨_, by first | rfl | (simp [errW_none, errW_some] <;> rfl) | (simp [*, errW_none, errW_some] <;> rfl), by (with_reducible repeat first | apply rA_ | apply rN_ | apply rD_); exact HO130.out, by repeat (first | (with_reducible first | exact HB.out | apply yA | apply yN | apply yD) | exact HB.out)⟩
  · rw [if_neg c2] at H
    exact absurd H (by simp)
end Go.Proofs.YtlgfmmkabnbllaaDoor.PA
namespace Go.Proofs.YtlgfmmkabnbllaaDoor.PA
open Go.RowKit Go.Proofs.YtlgfmmkabnbllaaDoorW.PrintWords Go.Proofs.YtlgfmmkabnbllaaDoorW.PrintLast Go.Proofs.YtlgfmmkabnbllaaDoorW.PrintMore
attribute [local go_sem] max2_int min2_int max_two min_two max_three min_three max_four min_four
open Go.Proofs.YtlgfmmkabnbllaaDoor.Hand
set_option linter.unusedVariables false
set_option linter.unusedSimpArgs false
end Go.Proofs.YtlgfmmkabnbllaaDoor.PA
namespace Go.Proofs.YtlgfmmkabnbllaaDoor.Hand
open Go.RowKit Go.Proofs.YtlgfmmkabnbllaaDoorW.PrintWords Go.Proofs.YtlgfmmkabnbllaaDoorW.PrintLast Go.Proofs.YtlgfmmkabnbllaaDoorW.PrintMore
def byteB (x : Int) : Bool := decide (0 ≤ x) && decide (x < 256)
def bytes_Join.f (l0 : List (List Int)) (l1 : List Int) : Option (List Int) :=
  if 2 ≤ l0.length ∧ l0.length ≤ 140737488355328 ∧ l1 = [] ∧ l0.flatten.all byteB = true ∧ l0.flatten.length ≤ 140737488355328 then some l0.flatten else none
theorem byteB_iff {x : Int} : byteB x = true ↔ 0 ≤ x ∧ x < 256 := by unfold byteB; simp
theorem ofNat_inj {x y : Int} (hx : 0 ≤ x ∧ x < 256) (hy : 0 ≤ y ∧ y < 256) (h : UInt8.ofNat x.toNat = UInt8.ofNat y.toNat) : x = y := by
  have h := congrArg UInt8.toNat h
  simp only [UInt8.toNat_ofNat'] at h
  rw [Nat.mod_eq_of_lt (by omega), Nat.mod_eq_of_lt (by omega)] at h
  omega
theorem bytesOf_inj : ∀ {a b : List Int}, (∀ x ∈ a, 0 ≤ x ∧ x < 256) → (∀ x ∈ b, 0 ≤ x ∧ x < 256) → Lib.bytesOf a = Lib.bytesOf b → a = b
  | [], [], _, _, _ => rfl
  | [], _ :: _, _, _, h => by simp [Lib.bytesOf] at h
  | _ :: _, [], _, _, h => by simp [Lib.bytesOf] at h
  | x :: a, y :: b, ha, hb, h => by
    simp only [Lib.bytesOf, List.map_cons, List.cons.injEq] at h
    rw [ofNat_inj (ha x (by simp)) (hb y (by simp)) h.1, bytesOf_inj (fun z hz => ha z (by simp [hz])) (fun z hz => hb z (by simp [hz])) h.2]
end Go.Proofs.YtlgfmmkabnbllaaDoor.Hand

namespace Go.Proofs.YtlgfmmkabnbllaaDoor.Hand
open Go.RowKit Go.Proofs.YtlgfmmkabnbllaaDoorW.PrintWords Go.Proofs.YtlgfmmkabnbllaaDoorW.PrintLast Go.Proofs.YtlgfmmkabnbllaaDoorW.PrintMore Go.Proofs.YtlgfmmkabnbllaaDoor.PA
theorem andNot128 (c : Int) (h0 : 0 ≤ c) (h1 : c < 256) : Go.bits .andNot .u8 c 128 = c % 128 := by
  rw [u8_andNot c 128 h0 h1 (by omega) (by omega)]
  rw [show (255 - (128 : Int).toNat) = 2 ^ 7 - 1 from rfl, Nat.and_two_pow_sub_one_eq_mod]
  omega
theorem and127 (c : Int) (h0 : 0 ≤ c) (h1 : c < 18446744073709551616) : Go.bits .and .u64 c 127 = c % 128 := by
  rw [u64_and c 127 h0 h1 (by omega) (by omega)]
  rw [show ((127 : Int).toNat) = 2 ^ 7 - 1 from rfl, Nat.and_two_pow_sub_one_eq_mod]
  omega
theorem or_high (n m s : Nat) (hn : n < 2 ^ s) : n ||| (m * 2 ^ s) = n + m * 2 ^ s := by
  have := Nat.shiftLeft_add_eq_or_of_lt hn m
  rw [Nat.shiftLeft_eq] at this
  rw [Nat.or_comm, ← this, Nat.add_comm]
theorem vbound (n c : Int) (i : Nat) (hn : n < 2 ^ (7 * i)) (hc0 : 0 ≤ c) (hc : c < 128) (hi : i ≤ 9) (h9 : i = 9 → c ≤ 1) : c * 2 ^ (7 * i) < 18446744073709551616 ∧ n + c * 2 ^ (7 * i) < 18446744073709551616 ∧ 0 ≤ c * 2 ^ (7 * i) := by
  have : i = 0 ∨ i = 1 ∨ i = 2 ∨ i = 3 ∨ i = 4 ∨ i = 5 ∨ i = 6 ∨ i = 7 ∨ i = 8 ∨ i = 9 := by omega
  rcases this with rfl | rfl | rfl | rfl | rfl | rfl | rfl | rfl | rfl | rfl
  all_goals
    first | (have := h9 rfl) | skip
    simp only [Nat.reduceMul, Int.reducePow] at hn ⊢
    omega
theorem vstep_eq (n c : Int) (i : Nat) (hn0 : 0 ≤ n) (hn : n < 2 ^ (7 * i)) (hc0 : 0 ≤ c) (hc : c < 256) (hi : i ≤ 9) (h9 : i = 9 → c ≤ 1) : vstep n c i = n + (c % 128) * 2 ^ (7 * i) := by
  unfold vstep
  rw [andNot128 c hc0 hc]
  have hb := vbound n (c % 128) i hn (by omega) (by omega) hi (fun h => by have := h9 h; omega)
  have hd : 0 ≤ c % 128 ∧ c % 128 ≤ 18446744073709551615 := by omega
  clear hc0 hc h9
  generalize c % 128 = d at *
  rw [IntWalk.u64_in d hd]
  have hp : (2 : Int) ^ (7 * i) = ((2 ^ (7 * i) : Nat) : Int) := by simp
  rw [hp] at hn hb ⊢
  generalize hq : 2 ^ (7 * i) = q at *
  have e1 : (d * (q : Int)).toNat = d.toNat * q := by rw [Int.toNat_mul hd.1 (Int.natCast_nonneg _), Int.toNat_natCast]
  have e2 := or_high n.toNat d.toNat (7 * i)
  rw [hq] at e2
  have e3 := e2 (by omega)
  have e4 : ((d.toNat * q : Nat) : Int) = d * q := by rw [← e1]; exact Int.toNat_of_nonneg hb.2.2
  generalize d * (q : Int) = m at *
  rw [IntWalk.u64_in m (by omega), u64_or n m hn0 (by omega) (by omega) (by omega), e1, e3, Int.natCast_add, e4]
  omega
theorem vref_eq (n c : Int) (i : Nat) (hc0 : 0 ≤ c) (hc : c < 256) (hi : i ≤ 9) :
    Go.bits .or .u64 n (shl .u64 (Go.bits .and .u64 (IntKind.u64.wrap c) 127) (IntKind.u64.wrap (wrap64 (7 * (i : Int))))) = vstep n c i := by
  have hw : IntKind.u64.wrap c = c := IntWalk.u64_in _ (by omega)
  have hw2 : wrap64 (7 * (i : Int)) = 7 * i := IntWalk.wrap64_in _ (by omega)
  have hw3 : IntKind.u64.wrap (7 * (i : Int)) = 7 * i := IntWalk.u64_in _ (by omega)
  unfold vstep shl
  rw [hw, hw2, hw3, and127 c hc0 (by omega), andNot128 c hc0 hc, IntWalk.u64_in (c % 128) (by omega)]
  have : min (7 * (i : Int)).toNat IntKind.u64.bits = 7 * i := by
    have : IntKind.u64.bits = 64 := rfl
    rw [this]; omega
  rw [this]
def Bytes255 (l : List Int) : Prop := ∀ x ∈ l, 0 ≤ x ∧ x < 256
theorem rd_255 {l : List Int} (h : Bytes255 l) (i : Int) : 0 ≤ rd l i ∧ rd l i < 256 := by
  unfold rd
  rw [List.getD_eq_getElem?_getD]
  rcases Nat.lt_or_ge i.toNat l.length with h1 | h1
  · rw [List.getElem?_eq_getElem h1]; exact h _ (List.getElem_mem h1)
  · rw [List.getElem?_eq_none h1]; simp
end Go.Proofs.YtlgfmmkabnbllaaDoor.Hand
namespace Go.Proofs.YtlgfmmkabnbllaaDoor.Hand
open Go.RowKit Go.Proofs.YtlgfmmkabnbllaaDoorW.PrintWords Go.Proofs.YtlgfmmkabnbllaaDoorW.PrintLast Go.Proofs.YtlgfmmkabnbllaaDoorW.PrintMore Go.Proofs.YtlgfmmkabnbllaaDoor.PA
theorem numL_succ (l : List Int) (d i : Nat) (n at_ c : Int) (hc : rd l at_ = c) : numL l (d + 1) i n at_ = if at_ = l.length then .error 3 else if (i = 9 ∧ c > 1) ∨ (c = 0 ∧ 0 < i) then .error 2 else
    if c < 128 then .ok (vstep n c i, at_ + 1) else numL l d (i + 1) (vstep n c i) (at_ + 1) := by subst hc; rfl
theorem ref_step (l : List Int) (k i : Nat) (at_ n c : Int) (hc : rd l (at_ + i) = c) (hc0 : 0 ≤ c) (hc1 : c < 256) (a1 : -9223372036854775808 ≤ at_ + (i : Int) ∧ at_ + (i : Int) ≤ 9223372036854775806) (hi : i ≤ 9) (h0 : 0 ≤ at_) (hin : at_ + (i : Int) < l.length) :
    tikref2_Get.l0 (k + 1 + 1) l at_ n (i : Int) = if i = 9 ∧ c > 1 then some (0, 0, 2) else if c < 128 then (if c = 0 ∧ 0 < i then some (0, 0, 2) else some (vstep n c i, at_ + i + 1, 0)) else tikref2_Get.l0 k l at_ (vstep n c i) ((i + 1 : Nat) : Int) := by
  have hv := vref_eq n c i hc0 hc1 hi
  rw [IntWalk.u64_in c (by omega)] at hv
  have h7 : wrap64 (7 * (i : Int)) = 7 * i := IntWalk.wrap64_in _ (by omega)
  have h8 : IntKind.u64.wrap (7 * (i : Int)) = 7 * i := IntWalk.u64_in _ (by omega)
  rw [h7, h8] at hv
  have t1 : (i : Int) < 10 := by omega
  have t2 : ¬ (at_ + (i : Int) ≥ l.length) := by omega
  have t3 : 0 ≤ at_ + (i : Int) := by omega
  have t4 : 0 ≤ 7 * (i : Int) := by omega
  have e1 : (i : Int) + 1 = ((i + 1 : Nat) : Int) := by omega
  have t5 : ((i : Int) = 9) ↔ (i = 9) := by omega
  have t6 : ((i : Int) > 0) ↔ (0 < i) := by omega
  have w1 : wrap64 (at_ + (i : Int)) = at_ + i := IntWalk.wrap64_in _ (by omega)
  have w2 : wrap64 (at_ + (i : Int) + 1) = at_ + i + 1 := IntWalk.wrap64_in _ (by omega)
  have w3 : wrap64 ((i : Int) + 1) = (i : Int) + 1 := IntWalk.wrap64_in _ (by omega)
  have w4 : IntKind.u64.wrap c = c := IntWalk.u64_in _ (by omega)
  rw [tikref2_Get.l0, w1, hc, w4, if_pos t1, if_neg t2, if_pos t3, if_pos hin]
  have j : ∀ b : Bool, tikref2_Get.j2 (k + 1) l at_ n i c b = if b = true then some (0, 0, 2) else if c < 128 then (if c = 0 ∧ 0 < i then some (0, 0, 2) else some (vstep n c i, at_ + i + 1, 0)) else tikref2_Get.l0 k l at_ (vstep n c i) ((i + 1 : Nat) : Int) := by
    intro b
    rw [tikref2_Get.j2, w1, w2, h7, h8, hv, w3, if_pos t4, e1]
    cases b
    · refine (if_neg (by simp)).trans (Eq.trans ?_ (if_neg (by simp)).symm)
      by_cases q : c < 128
      · refine (if_pos q).trans (Eq.trans ?_ (if_pos q).symm)
        by_cases hz : c = 0
        · refine (if_pos hz).trans ?_
          by_cases hi0 : 0 < i
          · exact (if_pos (t6.2 hi0)).trans (if_pos ⟨hz, hi0⟩).symm
          · exact (if_neg (fun h => hi0 (t6.1 h))).trans (if_neg (fun h => hi0 h.2)).symm
        · exact (if_neg hz).trans (if_neg (fun h => hz h.1)).symm
      · exact (if_neg q).trans (if_neg q).symm
    · exact (if_pos rfl).trans (if_pos rfl).symm
  by_cases h9 : i = 9
  · refine (if_pos (t5.2 h9)).trans ((j _).trans ?_)
    by_cases hc9 : c > 1
    · exact (if_pos (decide_eq_true hc9)).trans (if_pos ⟨h9, hc9⟩).symm
    · exact (if_neg (by simpa using hc9)).trans (if_neg (fun h => hc9 h.2)).symm
  · exact (if_neg (fun h => h9 (t5.1 h))).trans ((j _).trans ((if_neg (by simp)).trans (if_neg (fun h => h9 h.1)).symm))
theorem ref_end (l : List Int) (k i : Nat) (at_ n : Int) (a1 : -9223372036854775808 ≤ at_ + (i : Int) ∧ at_ + (i : Int) ≤ 9223372036854775806) (hi : i ≤ 9) (hin : at_ + (i : Int) = l.length) :
    tikref2_Get.l0 (k + 1) l at_ n (i : Int) = some (0, 0, 3) := by
  have t1 : (i : Int) < 10 := by omega
  have t2 : at_ + (i : Int) ≥ l.length := by omega
  have w1 : wrap64 (at_ + (i : Int)) = at_ + i := IntWalk.wrap64_in _ (by omega)
  rw [tikref2_Get.l0, w1, if_pos t1, if_pos t2]
theorem ref_over (l : List Int) (k : Nat) (at_ n : Int) : tikref2_Get.l0 (k + 1) l at_ n ((10 : Nat) : Int) = some (0, 0, 2) := by
  rw [tikref2_Get.l0, if_neg (by omega)]
theorem ref_l0 (l : List Int) (hl : l.length ≤ 9223372036854775000) (hb : Bytes255 l) (at_ : Int) (h0 : 0 ≤ at_) :
    ∀ (d i k : Nat) (n : Int), i + d = 10 → 2 * d < k → at_ + (i : Int) ≤ l.length → tikref2_Get.l0 k l at_ n (i : Int) = some (numOut (numL l d i n (at_ + i))) := by
  intro d
  induction d with
  | zero =>
    intro i k n hi hk _
    obtain ⟨k, rfl⟩ : ∃ m, k = m + 1 := ⟨k - 1, by omega⟩
    obtain rfl : i = 10 := by omega
    rw [ref_over]; rfl
  | succ d ih =>
    intro i k n hi hk h1
    obtain ⟨k, rfl⟩ : ∃ m, k = m + 1 + 1 := ⟨k - 2, by omega⟩
    have a1 : -9223372036854775808 ≤ at_ + (i : Int) ∧ at_ + (i : Int) ≤ 9223372036854775806 := by omega
    have hi9 : i ≤ 9 := by omega
    obtain ⟨c, hc⟩ : ∃ c, rd l (at_ + i) = c := ⟨_, rfl⟩
    have hb2 := rd_255 hb (at_ + i)
    rw [hc] at hb2
    rw [numL_succ l d i n (at_ + i) c hc]
    by_cases hp : at_ + (i : Int) = l.length
    · rw [ref_end l (k + 1) i at_ n a1 hi9 hp, if_pos hp]; rfl
    · have hin : at_ + (i : Int) < l.length := by clear hc; omega
      rw [ref_step l k i at_ n c hc hb2.1 hb2.2 a1 hi9 h0 hin, if_neg hp]
      have e : at_ + ((i + 1 : Nat) : Int) = at_ + i + 1 := by clear hc; omega
      have hih := ih (i + 1) k (vstep n c i) (by clear hc; omega) (by clear hc; omega) (by clear hc; omega)
      rw [e] at hih
      by_cases q1 : i = 9 ∧ c > 1
      · rw [if_pos q1, if_pos (.inl q1)]; rfl
      · rw [if_neg q1]
        by_cases q2 : c = 0 ∧ 0 < i
        · rw [if_pos (show c < 128 by have := q2.1; clear hc; omega), if_pos q2, if_pos (.inr q2)]; rfl
        · have q4 : ¬ ((i = 9 ∧ c > 1) ∨ (c = 0 ∧ 0 < i)) := fun h => h.elim q1 q2
          rw [if_neg q4]
          by_cases q3 : c < 128
          · refine (if_pos q3).trans ((if_neg q2).trans ?_)
            rw [if_pos q3]; rfl
          · refine (if_neg q3).trans (hih.trans ?_)
            rw [if_neg q3]
theorem refGet_any (l : List Int) (hl : l.length ≤ 9223372036854775000) (hb : Bytes255 l) (a : Int) (k : Nat) (hk : 30 ≤ k) : tikref2_Get.f k l a = some (getV l a) := by
  obtain ⟨k, rfl⟩ : ∃ m, k = m + 1 := ⟨k - 1, by omega⟩
  unfold tikref2_Get.f getV
  simp only [tikref2_Get.j0]
  by_cases h0 : a < 0
  · rw [if_pos h0, if_pos h0]; rfl
  · rw [if_neg h0, if_neg h0]
    by_cases h1 : (l.length : Int) < a
    · rw [if_pos h1, if_pos (decide_eq_true h1)]
    · rw [if_neg h1, if_neg (by simpa using h1)]
      have := ref_l0 l hl hb a (by omega) 10 0 k 0 (by omega) (by omega) (by omega)
      simpa using this
end Go.Proofs.YtlgfmmkabnbllaaDoor.Hand
namespace Go.Proofs.YtlgfmmkabnbllaaDoor.Hand
open Go.RowKit Go.Proofs.YtlgfmmkabnbllaaDoorW.PrintWords Go.Proofs.YtlgfmmkabnbllaaDoorW.PrintLast Go.Proofs.YtlgfmmkabnbllaaDoorW.PrintMore Go.Proofs.YtlgfmmkabnbllaaDoor.PA
def varL : Nat → Int → List Int
  | 0, a => [a % 256]
  | d + 1, a => if a ≥ 128 then (a % 128 + 128) :: varL d (a / 128) else [a % 256]
theorem bytes_same (l : List Int) : tikref_Bytes.f l l = some true := by simp [tikref_Bytes.f]
def poly : BitVec 32 := 3988292384#32
def crcB (s : BitVec 32) : BitVec 32 := (s >>> 1) ^^^ (if s.getLsbD 0 then poly else 0#32)
def itB : Nat → BitVec 32 → BitVec 32
  | 0, s => s
  | d + 1, s => itB d (crcB s)
def crcL (l : List Int) (s : BitVec 32) : BitVec 32 := l.foldl (fun s x => itB 8 (s ^^^ BitVec.ofNat 32 x.toNat)) s
def nB (s : BitVec 32) : Int := (s.toNat : Int)
theorem nB_xor (a b : BitVec 32) : Go.bits .xor .u32 (nB a) (nB b) = nB (a ^^^ b) := by
  unfold nB
  rw [u32_xor_nat _ _ a.isLt b.isLt, BitVec.toNat_xor]
theorem nB_half (s : BitVec 32) : nB s / (2 : Int) = nB (s >>> 1) := by
  unfold nB
  rw [BitVec.toNat_ushiftRight, Nat.shiftRight_eq_div_pow]
  omega
theorem nB_low (s : BitVec 32) : Go.bits .and .u32 (nB s) 1 = if s.getLsbD 0 then 1 else 0 := by
  unfold nB
  have := u32_and_nat s.toNat 1 s.isLt (by omega)
  refine this.trans ?_
  rw [Nat.and_one_is_mod]
  have h : s.getLsbD 0 = decide (s.toNat % 2 = 1) := by rw [BitVec.getLsbD, Nat.testBit_zero]
  rw [h]
  by_cases q : s.toNat % 2 = 1
  · rw [q]; simp
  · have : s.toNat % 2 = 0 := by omega
    rw [this]; simp
theorem wire_bit (s : BitVec 32) : Go.bits .xor .u32 (nB s / 2) ((3988292384 * (Go.bits .and .u32 (nB s) 1)) % 4294967296) = nB (crcB s) := by
  rw [nB_low, nB_half]
  unfold crcB
  rw [← nB_xor]
  cases s.getLsbD 0 <;> rfl
theorem ref_bit (s : BitVec 32) : (if (Go.bits .and .u32 (nB s) 1) = 1 then Go.bits .xor .u32 (nB s / 2) 3988292384 else nB s / 2) = nB (crcB s) := by
  rw [nB_low, nB_half]
  unfold crcB
  cases s.getLsbD 0
  · simp
  · rw [← nB_xor]; rfl
theorem wire_l1 (x7 : List Int) (x8 x9 : Int) : ∀ (d k : Nat) (s : BitVec 32), d ≤ 8 → wire_Crc.l1 (k + d + 1) (nB s) x7 x8 x9 (8 - (d : Int)) = wire_Crc.l0 k (nB (itB d s)) x7 x8 (wrap64 (x9 + 1)) := by
  intro d
  induction d with
  | zero => intro k s _; rw [show k + 0 + 1 = k + 1 by omega, wire_Crc.l1, if_neg (by omega)]; rfl
  | succ d ih =>
    intro k s hd
    have w : wrap64 (8 - ((d + 1 : Nat) : Int) + 1) = 8 - (d : Int) := by rw [IntWalk.wrap64_in _ (by omega)]; omega
    rw [show k + (d + 1) + 1 = (k + d + 1) + 1 by omega, wire_Crc.l1, if_pos (by omega), wire_bit, w, ih k _ (by omega)]
    rfl
theorem ref_l1 (x0 : List Int) (x4 : Int) : ∀ (d k : Nat) (s : BitVec 32), d ≤ 8 → tikref2_Crc.l1 (k + d + 1) x0 (nB s) x4 (8 - (d : Int)) = tikref2_Crc.l0 k x0 (nB (itB d s)) (wrap64 (x4 + 1)) := by
  intro d
  induction d with
  | zero => intro k s _; rw [show k + 0 + 1 = k + 1 by omega, tikref2_Crc.l1, if_neg (by omega)]; rfl
  | succ d ih =>
    intro k s hd
    have w : wrap64 (8 - ((d + 1 : Nat) : Int) + 1) = 8 - (d : Int) := by rw [IntWalk.wrap64_in _ (by omega)]; omega
    have hb := ref_bit s
    rw [show k + (d + 1) + 1 = (k + d + 1) + 1 by omega, tikref2_Crc.l1, if_pos (by omega), w]
    by_cases q : (Go.bits .and .u32 (nB s) 1) = 1
    · rw [if_pos q] at hb
      refine (if_pos q).trans ?_
      rw [hb, ih k _ (by omega)]; rfl
    · rw [if_neg q] at hb
      refine (if_neg q).trans ?_
      rw [hb, ih k _ (by omega)]; rfl
theorem rd_cons (l : List Int) (i : Nat) (h : i < l.length) : l.drop i = rd l (i : Int) :: l.drop (i + 1) := by
  rw [List.drop_eq_getElem_cons h]
  unfold rd
  rw [Int.toNat_natCast, List.getD_eq_getElem?_getD, List.getElem?_eq_getElem h]; rfl
theorem byte_nB (c : Int) (h0 : 0 ≤ c) (h1 : c < 256) : c % 4294967296 = nB (BitVec.ofNat 32 c.toNat) := by
  unfold nB
  rw [BitVec.toNat_ofNat]
  omega
theorem wire_l0 (l : List Int) (hl : l.length ≤ 9223372036854775000) (hb : Bytes255 l) : ∀ (m k i : Nat) (s : BitVec 32), i + m = l.length →
    wire_Crc.l0 (k + 10 * m + 1) (nB s) l (l.length : Int) (i : Int) = some (nB (crcL (l.drop i) s ^^^ 0xffffffff#32)) := by
  intro m
  induction m with
  | zero =>
    intro k i s h
    rw [show k + 10 * 0 + 1 = k + 1 by omega, wire_Crc.l0, if_neg (by omega), List.drop_of_length_le (by omega)]
    rw [← nB_xor]; rfl
  | succ m ih =>
    intro k i s h
    obtain ⟨h0, h1⟩ := rd_255 hb (i : Int)
    have w : wrap64 ((i : Int) + 1) = ((i + 1 : Nat) : Int) := by rw [IntWalk.wrap64_in _ (by omega)]; omega
    rw [show k + 10 * (m + 1) + 1 = ((k + 10 * m + 1) + 8 + 1) + 1 by omega, wire_Crc.l0, if_pos (by omega), if_pos (by omega), if_pos (by omega), byte_nB _ h0 h1, nB_xor]
    have := wire_l1 l (l.length : Int) (i : Int) 8 (k + 10 * m + 1) (s ^^^ BitVec.ofNat 32 (rd l (i : Int)).toNat) (by omega)
    refine this.trans ?_
    rw [w, ih k (i + 1) _ (by omega), rd_cons l i (by omega)]
    rfl
theorem ref_crc_l0 (l : List Int) (hl : l.length ≤ 9223372036854775000) (hb : Bytes255 l) : ∀ (m k i : Nat) (s : BitVec 32), i + m = l.length →
    tikref2_Crc.l0 (k + 10 * m + 1) l (nB s) (i : Int) = some (nB (crcL (l.drop i) s ^^^ 0xffffffff#32)) := by
  intro m
  induction m with
  | zero =>
    intro k i s h
    rw [show k + 10 * 0 + 1 = k + 1 by omega, tikref2_Crc.l0, if_neg (by omega), List.drop_of_length_le (by omega), BitVec.xor_comm]
    rw [← nB_xor]; rfl
  | succ m ih =>
    intro k i s h
    obtain ⟨h0, h1⟩ := rd_255 hb (i : Int)
    have w : wrap64 ((i : Int) + 1) = ((i + 1 : Nat) : Int) := by rw [IntWalk.wrap64_in _ (by omega)]; omega
    rw [show k + 10 * (m + 1) + 1 = ((k + 10 * m + 1) + 8 + 1) + 1 by omega, tikref2_Crc.l0, if_pos (by omega), if_pos (by omega), byte_nB _ h0 h1, nB_xor]
    have := ref_l1 l (i : Int) 8 (k + 10 * m + 1) (s ^^^ BitVec.ofNat 32 (rd l (i : Int)).toNat) (by omega)
    refine this.trans ?_
    rw [w, ih k (i + 1) _ (by omega), rd_cons l i (by omega)]
    rfl
def crcV (l : List Int) : Int := nB (crcL l 0xffffffff#32 ^^^ 0xffffffff#32)
theorem wireCrc_any (k : Nat) (l : List Int) (hl : l.length ≤ 9223372036854775000) (hb : Bytes255 l) (hk : 10 * l.length + 1 ≤ k) : wire_Crc.f k l = some (crcV l) := by
  obtain ⟨j, rfl⟩ : ∃ j, k = j + 10 * l.length + 1 := ⟨k - (10 * l.length + 1), by omega⟩
  have := wire_l0 l hl hb l.length j 0 0xffffffff#32 (by omega)
  exact this
theorem refCrc_any (k : Nat) (l : List Int) (hl : l.length ≤ 9223372036854775000) (hb : Bytes255 l) (hk : 10 * l.length + 1 ≤ k) : tikref2_Crc.f k l = some (crcV l) := by
  obtain ⟨j, rfl⟩ : ∃ j, k = j + 10 * l.length + 1 := ⟨k - (10 * l.length + 1), by omega⟩
  have := ref_crc_l0 l hl hb l.length j 0 0xffffffff#32 (by omega)
  exact this
end Go.Proofs.YtlgfmmkabnbllaaDoor.Hand
namespace Go.Proofs.YtlgfmmkabnbllaaDoor.Hand
open Go.RowKit Go.Proofs.YtlgfmmkabnbllaaDoorW.PrintWords Go.Proofs.YtlgfmmkabnbllaaDoorW.PrintLast Go.Proofs.YtlgfmmkabnbllaaDoor.PA
def stopR (e : Int) : List PanicEntry := [{ v := .iface 161 (.agg #[.int .i64 e]), recovered := false }]
theorem asks_ok {b : Bool} {e : Int} {w : World} (hb : b = true) : Calls Tryd.prog 98 #[.bool b, .int .i64 e] w fun en w' => en = .returned (.tuple #[]) ∧ w = w' := by
  subst hb
  go_enter Tryd.func98, Tryd.ntmps98
  go_wp2
  go_end0
  exact ⟨rfl, rfl⟩
theorem asks_no {b : Bool} {e : Int} {w : World} (hb : b = false) : Calls Tryd.prog 98 #[.bool b, .int .i64 e] w fun en w' => en = .panicked (stopR e) ∧ w = w' := by
  subst hb
  go_enter Tryd.func98, Tryd.ntmps98
  go_wp2
  exact ⟨rfl, rfl, rfl⟩
set_option maxHeartbeats 1000000 in
theorem num_ok {w : World} {A : Option Addr} {c p : Nat} {l : List Int} {a n q : Int} (hr0 : Kd.C (Kd.int .u8) w A l.length l) (hc0 : l.length ≤ c) (hp : w.heap[p]? = some (.cells #[.int .i64 a] 3 (0, 0))) (hg : getV l a = (n, q, 0)) :
    Calls Tryd.prog 99 #[.slice A l.length c, .pointer (some ⟨p, 0, none⟩)] w fun en w' => en = .returned (.int .u64 n) ∧ w'.heap[p]? = some (.cells #[.int .i64 q] 3 (0, 0)) ∧ Mu (· = p) w w' := by
  have HG := Aside0.mk (wire_Get.calls A c l a n q 0 w hr0 hc0 (congrArg some hg))
  have HP := Aside0.mk hp
  have c0 := blk_cell hp 0
  clear hr0 hc0 hp hg
  go_enter Tryd.func99, Tryd.ntmps99
  go_wp2_with fail
  refine HG.out.mono ?_
  rintro en w1 ⟨rfl, hb⟩
  have h1 := (Mu.of_below hb (fun _ => False)).heap HP.out (fun h => h)
  have H1 := Aside0.mk h1
  have HB := Aside0.mk hb
  have c1 := blk_cell h1 0
  have f1 := blk_frozen h1 0
  clear h1 hb HG
  go_wp2_with fail
  refine (asks_ok rfl).mono ?_
  rintro en w2 ⟨rfl, rfl⟩
  go_wp2_with fail
  go_ret
  exact ⟨rfl, set_0 H1.out, (Mu.of_below HB.out (· = p)).setCell (p := ⟨p, 0, none⟩) (fun _ => rfl) _⟩
set_option maxHeartbeats 1000000 in
theorem num_no {w : World} {A : Option Addr} {c p : Nat} {l : List Int} {a n q e : Int} (hr0 : Kd.C (Kd.int .u8) w A l.length l) (hc0 : l.length ≤ c) (hp : w.heap[p]? = some (.cells #[.int .i64 a] 3 (0, 0))) (hg : getV l a = (n, q, e)) (he : e ≠ 0) :
    Calls Tryd.prog 99 #[.slice A l.length c, .pointer (some ⟨p, 0, none⟩)] w fun en w' => en = .panicked (stopR e) ∧ Below w.heap.size w w' := by
  have HG := Aside0.mk (wire_Get.calls A c l a n q e w hr0 hc0 (congrArg some hg))
  have c0 := blk_cell hp 0
  have he' : (e == 0) = false := beq_eq_false_iff_ne.2 he
  clear hr0 hc0 hp hg he
  go_enter Tryd.func99, Tryd.ntmps99
  go_wp2_with fail
  refine HG.out.mono ?_
  rintro en w1 ⟨rfl, hb⟩
  have HB := Aside0.mk hb
  clear hb HG
  go_wp2_with fail
  refine (asks_no rfl).mono ?_
  rintro en w2 ⟨rfl, rfl⟩
  exact ⟨rfl, rfl, HB.out⟩
set_option maxHeartbeats 1000000 in
theorem rcaught_nil {w : World} : Calls Tryd.prog 97 #[.nilIface] w fun en w' => en = .returned (.int .i64 0) ∧ w' = w := by
  go_enter Tryd.func97, Tryd.ntmps97
  go_wp2
  go_ret
  exact ⟨rfl, rfl⟩
set_option maxHeartbeats 1000000 in
theorem rcaught_stop {w : World} {X : Int} : Calls Tryd.prog 97 #[.iface 161 (.agg #[.int .i64 X])] w fun en w' => en = .returned (.int .i64 X) ∧ Below w.heap.size w w' := by
  have hta : ∀ (v : Value) (W : World), (Instr.typeAssert (.iface 161 v) 20 161 true).run Tryd.prog W = .ok (.tuple #[v, .bool true]) W := fun v W => by kernel_rfl
  go_enter Tryd.func97, Tryd.ntmps97
  go_wp2
  go_ret
  refine ⟨rfl, ?_⟩
  first
    | exact below_alloc (Below.refl _ _) _
    | exact (below_alloc (Below.refl _ _) _).trans (by simp)
    | trace_state
end Go.Proofs.YtlgfmmkabnbllaaDoor.Hand
namespace Go.Proofs.YtlgfmmkabnbllaaDoor.Hand
open Go.RowKit Go.Proofs.YtlgfmmkabnbllaaDoorW.PrintWords Go.Proofs.YtlgfmmkabnbllaaDoorW.PrintLast Go.Proofs.YtlgfmmkabnbllaaDoor.PA
abbrev recO (k s t : Int) (v : Value) : Obj := .cells #[.int .i64 k, .int .u64 s, .int .u64 t, v] 88 (0, 0)
theorem rec_store {W : World} {g : Nat} {k s t : Int} (k' s' t' : Int) {v : Value} (A : Option Addr) (n c : Nat) (h : W.heap[g]? = some (recO k s t v)) :
    ∃ W', (Instr.storeAt 88 (.pointer (some ⟨g, 0, none⟩)) (.agg #[.int .i64 k', .int .u64 s', .int .u64 t', .slice A n c])).run Tryd.prog W = .ok () W' ∧ W'.heap[g]? = some (recO k' s' t' (.slice A n c)) ∧ Mu (· = g) W W' := by
  refine ⟨W.setRow g #[.int .i64 k', .int .u64 s', .int .u64 t', .slice A n c], ?_, setRow_heap W g _ _ _ _ h, ⟨rfl, rfl, rfl, by simp, fun j _ hj => setRow_other W g j _ hj⟩⟩
  simp only [Instr.storeAt, Instr.sureAddr, Sem.run_bind, Sem.run_pure, Result.andThen_ok, run_storeVar_row (P := Tryd.prog) W g 88 88 _ #[.int .i64 k', .int .u64 s', .int .u64 t', .slice A n c] h (by kernel_rfl) rfl (by simp [Value.oneCell'])]
theorem rec_load {W : World} {g : Nat} {k s t : Int} {v : Value} (h : W.heap[g]? = some (recO k s t v)) :
    (Instr.loadAt 88 (.pointer (some ⟨g, 0, none⟩))).run Tryd.prog W = .ok (.agg #[.int .i64 k, .int .u64 s, .int .u64 t, v]) W := by
  simp only [Instr.loadAt, Instr.sureAddr, Sem.run_bind, Sem.run_pure, Result.andThen_ok, run_loadVar_row (P := Tryd.prog) W g 88 88 _ (0, 0) _ h Tryd.underlying88 rfl (by kernel_rfl)]
theorem rec_build (W : World) : (Instr.build 88 #[]).run Tryd.prog W = .ok (.agg #[.int .i64 0, .int .u64 0, .int .u64 0, .slice none 0 0]) W :=
  run_build (P := Tryd.prog) W 88 #[] _ (by kernel_rfl)
theorem wpList_storeR {P : Program} {ops : Array Oper} {rest : List Oper} {o : Oper} {a : Act} {w w' : World} {Q : Exit → Act → World → Prop} (hgd : o.guard = none) (ty : TypeId) (x y : Operand) (ho : o.op = .store ty x y) {u v : Value} (hx : a.eval x = u) (hy : a.eval y = v)
    (hr : (Instr.storeAt ty u v).run P w = .ok () w') (h : wpList P ops Q rest (a.put o.dst undef) w') : wpList P ops Q (o :: rest) a w :=
  wpList_plain hgd fun _ hK => by
    unfold Oper.wp execOp
    simp only [ho, hx, hy, Sem.run_bind, hr, Result.andThen_ok, Sem.run_pure]
    exact hK _ _ h
theorem wpList_loadR {P : Program} {ops : Array Oper} {rest : List Oper} {o : Oper} {a : Act} {w : World} {Q : Exit → Act → World → Prop} (hgd : o.guard = none) (ty : TypeId) (x : Operand) (ho : o.op = .load ty x) {u v : Value} (hx : a.eval x = u)
    (hr : (Instr.loadAt ty u).run P w = .ok v w) (h : wpList P ops Q rest (a.put o.dst v) w) : wpList P ops Q (o :: rest) a w :=
  wpList_plain hgd fun _ hK => by
    unfold Oper.wp execOp
    simp only [ho, hx, Sem.run_bind, hr, Result.andThen_ok, Sem.run_pure]
    exact hK _ _ h
noncomputable def dec_rest : Code := match Tryd.f96.body with | some (.seq _ c) => c | _ => .skip
set_option maxRecDepth 100000 in
set_option maxHeartbeats 1000000 in
theorem dec_rest_stop {w : World} {p : Nat} {k s t e : Int} {v rv : Value} {X f : Int} (hX : (X != 0) = true)
    (h0 : w.heap[p]? = some (recO k s t v)) (h1 : w.heap[p + 1]? = some (.cells #[.int .i64 e] 3 (0, 0))) (h2 : w.heap[p + 1 + 1]? = some (.cells #[.int .i64 f] 32 (0, 0))) :
    Code.wp Tryd.prog dec_rest (fun en a' w' => en = .normal ∧ a'.defers = [] ∧ w'.heap[p]? = some (recO 0 0 0 (.slice none 0 0)) ∧ w'.heap[p + 1]? = some (.cells #[.int .i64 0] 3 (0, 0)) ∧ w'.heap[p + 1 + 1]? = some (.cells #[.int .i64 X] 32 (0, 0)) ∧ Mu (fun k => p ≤ k) w w')
      { tmps := #[.pointer (some ⟨p, 0, none⟩), .pointer (some ⟨p + 1, 0, none⟩), .pointer (some ⟨p + 1 + 1, 0, none⟩), .int .i64 X, rv, .int .i64 X, undef, undef, undef, undef], defers := [] } w := by
  obtain ⟨W1, hst, g0, m0⟩ := rec_store 0 0 0 none 0 0 h0
  have g1 := m0.heap h1 (by omega)
  have g2 := m0.heap h2 (by omega)
  obtain ⟨W2, hW2⟩ : ∃ W2, W1.setCell ⟨p + 1, 0, none⟩ (.int .i64 0) = W2 := ⟨_, rfl⟩
  have j1 : W2.heap[p + 1]? = some (.cells #[.int .i64 0] 3 (0, 0)) := by rw [← hW2]; exact set_0 g1
  have m1 : Mu (· = p + 1) W1 W2 := by rw [← hW2]; exact (Mu.refl (· = p + 1) W1).setCell (p := ⟨p + 1, 0, none⟩) (fun _ => rfl) _
  have j0 := m1.heap g0 (by omega)
  have j2 := m1.heap g2 (by omega)
  have HF := Aside0.mk (And.intro j0 (And.intro j1 (And.intro j2 (And.intro m0 m1))))
  have HW := Aside0.mk hW2
  have d1 := blk_cell g1 0
  have y1 := blk_frozen g1 0
  have d2 := blk_cell g2 0
  have y2 := blk_frozen g2 0
  have hbd := rec_build
  clear h0 h1 h2 g0 g1 g2 m0 m1 j0 j1 j2 hW2
  unfold dec_rest Tryd.f96
  go_wp2_with ((with_reducible refine gate_ (.store 88 (.tmp 0) (.tmp 8)) rfl ?_); refine wpList_storeR rfl _ _ _ rfl (by rfl) (by rfl) hst ?_)
  rw [HW.out]
  obtain ⟨j0, j1, j2, m0, m1⟩ := HF.out
  refine ⟨(Below.heap_setCell _ _ _ _ (by show p ≠ p + 1 + 1; omega)).trans j0, (Below.heap_setCell _ _ _ _ (by show p + 1 ≠ p + 1 + 1; omega)).trans j1, set_0 j2, ?_⟩
  exact ((m0.mono (fun k _ h => by show p ≤ k; omega)).trans (m1.mono (fun k _ h => by show p ≤ k; omega))).setCell (p := ⟨p + 1 + 1, 0, none⟩) (fun _ => by show p ≤ p + 1 + 1; omega) _
set_option maxRecDepth 100000 in
set_option maxHeartbeats 1000000 in
theorem dec_stop {w : World} {p : Nat} {k s t e : Int} {v : Value} {X f : Int} {older : List PanicEntry} (hX : (X != 0) = true)
    (h0 : w.heap[p]? = some (recO k s t v)) (h1 : w.heap[p + 1]? = some (.cells #[.int .i64 e] 3 (0, 0))) (h2 : w.heap[p + 1 + 1]? = some (.cells #[.int .i64 f] 32 (0, 0))) :
    CallsD Tryd.prog 96 #[.pointer (some ⟨p, 0, none⟩), .pointer (some ⟨p + 1, 0, none⟩), .pointer (some ⟨p + 1 + 1, 0, none⟩)]
      (.panicking ({ v := .iface 161 (.agg #[.int .i64 X]), recovered := false } :: older)) w fun en u w' =>
      en = .returned (.tuple #[]) ∧ u = .panicking ({ v := .iface 161 (.agg #[.int .i64 X]), recovered := true } :: older) ∧
        w'.heap[p]? = some (recO 0 0 0 (.slice none 0 0)) ∧ w'.heap[p + 1]? = some (.cells #[.int .i64 0] 3 (0, 0)) ∧ w'.heap[p + 1 + 1]? = some (.cells #[.int .i64 X] 32 (0, 0)) ∧ Mu (fun k => p ≤ k) w w' := by
  refine callsD_of_wpS Tryd.func96 rfl fun c₀ cs hu => ?_
  have fin : ∀ (w1 : World), Below w.heap.size w w1 → ∀ (en : Exit) (a' : Act) (w' : World), (en = .normal ∧ a'.defers = [] ∧ w'.heap[p]? = some (recO 0 0 0 (.slice none 0 0)) ∧ w'.heap[p + 1]? = some (.cells #[.int .i64 0] 3 (0, 0)) ∧ w'.heap[p + 1 + 1]? = some (.cells #[.int .i64 X] 32 (0, 0)) ∧ Mu (fun k => p ≤ k) w1 w') →
      bodyPostS Tryd.prog Tryd.f96 c₀ cs (fun en u w' => en = .returned (.tuple #[]) ∧ u = .panicking ({ v := .iface 161 (.agg #[.int .i64 X]), recovered := true } :: older) ∧
        w'.heap[p]? = some (recO 0 0 0 (.slice none 0 0)) ∧ w'.heap[p + 1]? = some (.cells #[.int .i64 0] 3 (0, 0)) ∧ w'.heap[p + 1 + 1]? = some (.cells #[.int .i64 X] 32 (0, 0)) ∧ Mu (fun k => p ≤ k) w w') en a'
        ({ c₀ with mode := .panicking ({ v := .iface 161 (.agg #[.int .i64 X]), recovered := true } :: older) } :: cs) w' := by
    rintro w1 hb en a' w' ⟨rfl, hd, g0, g1, g2, hm⟩
    exact ⟨hd, _, rfl, .tuple #[], results_none rfl _ _ _, rfl, rfl, g0, g1, g2, (Mu.of_below hb _).trans hm⟩
  have HS := Aside0.mk (And.intro h0 (And.intro h1 h2))
  clear h0 h1 h2
  apply wpS_seq
  apply wpS_region
  simp [wpOpsS, go_sem, recoverD, hu, Tryd.ntmps96]
  refine rcaught_stop.mono ?_
  rintro en w1 ⟨rfl, hb⟩
  have hm := Mu.of_below hb (fun _ => False)
  have r := dec_rest_stop (rv := .iface 161 (.agg #[.int .i64 X])) hX (hm.heap HS.out.1 (fun h => h)) (hm.heap HS.out.2.1 (fun h => h)) (hm.heap HS.out.2.2 (fun h => h))
  simp [wpOpsS, go_sem, Exit.thenS]
  refine wpS_of_wp ?_
  refine wp_act (a' := { tmps := #[.pointer (some ⟨p, 0, none⟩), .pointer (some ⟨p + 1, 0, none⟩), .pointer (some ⟨p + 1 + 1, 0, none⟩), .int .i64 X, .iface 161 (.agg #[.int .i64 X]), .int .i64 X, undef, undef, undef, undef], defers := [] }) (by kernel_rfl) ?_
  refine wp_code (c' := dec_rest) (by kernel_rfl) ?_
  exact Code.wp_mono (fin w1 hb) r
set_option maxRecDepth 100000 in
set_option maxHeartbeats 1000000 in
theorem dec_rest_idle {w : World} {p1 p2 p3 rv : Value} :
    Code.wp Tryd.prog dec_rest (fun en a' w' => en = .normal ∧ a'.defers = [] ∧ w' = w)
      { tmps := #[p1, p2, p3, .int .i64 0, rv, .int .i64 0, undef, undef, undef, undef], defers := [] } w := by
  unfold dec_rest Tryd.f96
  go_wp2
set_option maxRecDepth 100000 in
set_option maxHeartbeats 1000000 in
theorem dec_idle {w : World} {p1 p2 p3 : Value} :
    CallsD Tryd.prog 96 #[p1, p2, p3] .returning w fun en u w' => en = .returned (.tuple #[]) ∧ u = .returning ∧ w' = w := by
  refine callsD_of_wpS Tryd.func96 rfl fun c₀ cs hu => ?_
  have fin : ∀ (en : Exit) (a' : Act) (w' : World), (en = .normal ∧ a'.defers = [] ∧ w' = w) →
      bodyPostS Tryd.prog Tryd.f96 c₀ cs (fun en u w' => en = .returned (.tuple #[]) ∧ u = .returning ∧ w' = w) en a' (c₀ :: cs) w' := by
    rintro en a' w' ⟨rfl, hd, rfl⟩
    exact ⟨hd, .returning, by rw [← hu], .tuple #[], results_none rfl _ _ _, rfl, rfl, rfl⟩
  apply wpS_seq
  apply wpS_region
  simp [wpOpsS, go_sem, recoverD, hu, Tryd.ntmps96]
  refine rcaught_nil.mono ?_
  rintro en w1 ⟨rfl, rfl⟩
  simp [wpOpsS, go_sem, Exit.thenS]
  refine wpS_of_wp ?_
  refine wp_act (a' := { tmps := #[p1, p2, p3, .int .i64 0, .nilIface, .int .i64 0, undef, undef, undef, undef], defers := [] }) (by kernel_rfl) ?_
  refine wp_code (c' := dec_rest) (by kernel_rfl) ?_
  exact Code.wp_mono fin dec_rest_idle
end Go.Proofs.YtlgfmmkabnbllaaDoor.Hand
namespace Go.Proofs.YtlgfmmkabnbllaaDoor.Hand
open Go.RowKit Go.Proofs.YtlgfmmkabnbllaaDoorW.PrintWords Go.Proofs.YtlgfmmkabnbllaaDoorW.PrintLast
theorem info5 : (Tryd.prog.info? 5).map (fun i => (i.zero, i.size, i.bytes)) = some (some (.int .u8 0), 1, 1) := by kernel_rfl
def copyOf (l : List Int) (w : World) (en : Ending) (w' : World) : Prop := ∃ v, en = .returned v ∧ Kd.R (Kd.int .u8) 5 w' w.heap.size (fun _ => True) v l ∧ Below w.heap.size w w'
set_option maxHeartbeats 1000000 in
theorem clone_any {w : World} {A : Option Addr} {c : Nat} {l : List Int} (hC : Kd.C (Kd.int .u8) w A l.length l) (hc : l.length ≤ c) (hl : l.length < 140737488355328) :
    Calls Tryd.prog 100 #[.slice A l.length c] w (copyOf l w) := by
  have HC := Aside0.mk hC
  clear hC
  have HB := Aside0.mk (Below.refl w.heap.size w)
  cases A with
  | none =>
    obtain rfl : l = [] := by
      cases l with
      | nil => rfl
      | cons x l =>
        obtain ⟨ad, e, _⟩ := HC.out.2.2 (by simp)
        cases e
    have hq : ∀ w : World, (binOp .eql 64 (.slice none 0 c) (.slice none 0 0)).run Tryd.prog w = .ok (.bool true) w := fun w => Lib.run_eql_slice_nil w 64 5 none 0 c 0 0 Tryd.underlying64
    show Calls Tryd.prog 100 #[.slice none 0 c] w (copyOf [] w)
    go_enter Tryd.func100, Tryd.ntmps100
    go_wp2
    go_ret
    exact ⟨_, rfl, Kd.R_nil _ _ _ _ _, Below.refl _ _⟩
  | some ad =>
    have hq : ∀ w : World, (binOp .eql 64 (.slice (some ad) l.length c) (.slice none 0 0)).run Tryd.prog w = .ok (.bool false) w := fun w => Lib.run_eql_slice_nil w 64 5 (some ad) l.length c 0 0 Tryd.underlying64
    have HL := Aside0.mk hl
    clear hl
    go_enter Tryd.func100, Tryd.ntmps100
    go_wp2_with (first
      | ((with_reducible refine gate_dst (N := 5) rfl ?_); refine Kd.R_lit (Kd.int .u8) w.heap.size 5 ?hg (N := 5) ?hd (xs := ([] : List Int)) (inner := []) (ok := fun _ => True) (okp := fun _ => True) ?hr ?hp (fun _ hk => hk) trivial (Below.refl _ _) (Nat.le_refl _) (by simp) ?_; (case hd => rfl); (case hg => rfl); (case hr => first | (go_simp; done) | (go_simp; rfl)); (case hp => exact (Reps.none _ _)); intro v1 w1 ho hb hg_ hnew_; clear hg_ hnew_; have HO1 := Aside0.mk ho; have HB1 := Aside0.mk hb; clear ho hb HB)
      | ((with_reducible refine gate_builtin (b := .append) (xs := #[.tmp 5, .tmp 6]) rfl ?_); at_builtin; refine Kd.R_append_rows (Kd.int .u8) (w0 := w) w.heap.size rfl (.tmp 5) (.tmp 6) 64 5 (.int .u8 0) 1 rfl Tryd.underlying64 info5 rfl (by decide) (by omega) v1 [] l _ _ _ (fun _ => True) (fun _ => False) rfl rfl HO1.out (Kd.C_below HC.out HB1.out) (fun _ _ h => h) (fun _ h => h.elim) (fun _ _ => trivial) HB1.out HB1.out.size (by have := HL.out; simp; omega) ?_; intro v2 w2 ho hb hg hat; have HO2 := Aside0.mk ho; have HB2 := Aside0.mk hb; clear ho hb hg hat HO1 HB1))
    go_ret
    exact ⟨_, rfl, HO2.out, HB2.out⟩
end Go.Proofs.YtlgfmmkabnbllaaDoor.Hand
