/-
  What an argument's reading says of its cells, kind by kind: a number, a bool, a string, a struct of such, a slice of such. No condition.
-/
import Derived.ProofKit
import Derived.OpenShut
import Derived.DataReads
import Derived.DataElems
import Derived.SizedLaws
import Derived.Laws.Cover2
import Derived.Test.YtabljieejnhefaaDoorWWords
namespace Go.Proofs.YtabljieejnhefaaDoor.Opens
open Go.RowKit Go.Proofs.YtabljieejnhefaaDoorW.PrintWords

variable {P : Program}
def Opens {α : Type} (P : Program) (t : TypeId) (d : Kd α) (Q : α → Prop) : Prop :=
  ∀ (H : Type) (enc : TypeId × Value → H) (w : World) (base : Nat) (spare : Nat → Bool) (held : Bool) (fuel : Nat) (cs : List Value) (x : DataW H × List MemPlace),
    DataW.trod enc P w base spare held fuel t cs = some x → ∃ a, d.K w a cs ∧ Q a
theorem o_int {t : TypeId} {k : IntKind} (h : P.underlying t = some (.int k)) : Opens P t (Kd.int k) (fun n => (Lit.int k n).wf = true) := by
  intro H enc w base spare held fuel cs x hx
  obtain ⟨n, rfl, _, hw⟩ := DataW.trod_int h hx
  exact ⟨n, rfl, hw⟩
theorem o_bool {t : TypeId} (h : P.underlying t = some .bool) : Opens P t Kd.bool (fun _ => True) := by
  intro H enc w base spare held fuel cs x hx
  obtain ⟨n, rfl, _⟩ := DataW.trod_bool h hx
  exact ⟨n, rfl, trivial⟩
theorem o_str {t : TypeId} (h : P.underlying t = some .string) : Opens P t Kd.string (fun s => s.size ≤ maxLen) := by
  intro H enc w base spare held fuel cs x hx
  obtain ⟨n, rfl, _, hw⟩ := DataW.trod_string h hx
  exact ⟨n, rfl, hw⟩
theorem o_map {α β : Type} {t : TypeId} {d : Kd α} {Q : α → Prop} (h : Opens P t d Q) (f : β → α) (g : α → β) (hfg : ∀ x, f (g x) = x) : Opens P t (Kd.iso d f) (fun b => Q (f b)) := by
  intro H enc w base spare held fuel cs x hx
  obtain ⟨a, ha, hq⟩ := h H enc w base spare held fuel cs x hx
  exact ⟨g a, by show d.K w (f (g a)) cs; rw [hfg]; exact ha, by show Q (f (g a)); rw [hfg]; exact hq⟩
theorem mapM_get {α β : Type} {f : α → Option β} : ∀ {l : List α} {r : List β}, l.mapM f = some r → r.length = l.length ∧ ∀ (i : Nat) a, l[i]? = some a → ∃ b, f a = some b ∧ r[i]? = some b
  | [], r, h => by
    simp at h
    subst h
    exact ⟨rfl, fun i a h => by simp at h⟩
  | x :: l, r, h => by
    rw [List.mapM_cons] at h
    cases hx : f x with
    | none => simp [hx] at h
    | some y =>
      cases hl : l.mapM f with
      | none => simp [hx, hl] at h
      | some ys =>
        simp [hx, hl] at h
        subst h
        obtain ⟨h1, h2⟩ := mapM_get hl
        refine ⟨by simp [h1], fun i a ha => ?_⟩
        cases i with
        | zero =>
          simp at ha
          subst ha
          exact ⟨y, hx, by simp⟩
        | succ i => exact h2 i a (by simpa using ha)
abbrev kFloat (k : FloatKind) : Kd Nat := Kd.scalar (Value.float k) (fun _ => rfl)
theorem o_float {t : TypeId} {k : FloatKind} (h : P.underlying t = some (.float k)) : Opens P t (kFloat k) (fun n => (Lit.float k n).wf = true) := by
  intro H enc w base spare held fuel cs x hx
  cases fuel with
  | zero => simp [DataW.trod] at hx
  | succ n =>
    unfold DataW.trod at hx
    rw [h] at hx
    split at hx <;> simp_all
    exact ⟨_, rfl, hx.1.2⟩
theorem sized_any {H : Type} {enc : TypeId × Value → H} {W : World} {base : Nat} {spare : Nat → Bool} {held : Bool} {t e : TypeId} {a : Option Addr} {len cap : Nat} {d : DataW H} {ps : List MemPlace} {ts : List TypeId} {ds : List (DataW H)} {j : Nat}
    (hsz : (DataW.weightsEach P ts ds).all (· ≤ reachBytes) = true) (ht : ts[j]? = some t) (hd : ds[j]? = some d) (hu : P.underlying t = some (.slice e))
    (h : DataW.Trod enc P W base spare held t (.slice a len cap) d ps) : len * P.bytesOf e ≤ 140737488351232 := by
  obtain ⟨fuel, hf⟩ := h
  cases fuel with
  | zero => simp [DataW.trod] at hf
  | succ n =>
    unfold DataW.trod at hf
    rw [hu] at hf
    simp only [Value.cells] at hf
    split at hf
    all_goals first | (exfalso; simp_all; done) | skip
    · rename_i he
      simp at he
      obtain ⟨_, rfl, _⟩ := he
      simp
    · rename_i e' a' len' cap' he1 he2
      obtain rfl : e = e' := by simpa using he1
      simp at he2
      obtain ⟨rfl, rfl, rfl⟩ := he2
      split at hf
      · rw [Option.bind_eq_some_iff] at hf
        obtain ⟨elems, hm, hf⟩ := hf
        rw [Option.map_eq_some_iff] at hf
        obtain ⟨rest, _, hf⟩ := hf
        obtain ⟨hx, _⟩ := Prod.mk.inj hf
        subst hx
        have z := sized_slice hsz ht hd hu
        have hl := (mapM_get hm).1
        rw [List.length_range] at hl
        rw [List.length_map, List.length_map, hl] at z
        have : len * P.bytesOf e ≤ (len + rest.length) * P.bytesOf e := Nat.mul_le_mul_right _ (by omega)
        have z2 : reachBytes = 140737488351232 := rfl
        omega
      · cases hf
/-- A struct's fields from one on. -/
def OpensF {α : Type} (P : Program) (fs : List Field) (off : Nat) (d : Kd α) (Q : α → Prop) : Prop :=
  ∀ (H : Type) (enc : TypeId × Value → H) (w : World) (base : Nat) (spare : Nat → Bool) (held : Bool) (n : Nat) (cs : List Value), cs.length = off + d.sz →
    (∀ (i : Nat) (f : Field), fs[i]? = some f → ∃ x, DataW.trod enc P w base spare held n f.type ((cs.drop f.offset).take (P.cellsOf f.type)) = some x) → ∃ a, d.K w a (cs.drop off) ∧ Q a
theorem f_last {α : Type} {f : Field} {off : Nat} {d : Kd α} {Q : α → Prop} (ho : f.offset = off) (hc : P.cellsOf f.type = d.sz) (h : Opens P f.type d Q) : OpensF P [f] off d Q := by
  intro H enc w base spare held n cs hl hx
  obtain ⟨x, hx⟩ := hx 0 f rfl
  obtain ⟨a, ha, hq⟩ := h H enc w base spare held n _ x hx
  refine ⟨a, ?_, hq⟩
  rw [ho, hc, List.take_of_length_le (by simp; omega)] at ha
  exact ha
theorem f_cons {α β : Type} {f : Field} {fs : List Field} {off : Nat} {d : Kd α} {Q : α → Prop} {d' : Kd β} {Q' : β → Prop} (ho : f.offset = off) (hc : P.cellsOf f.type = d.sz) (h : Opens P f.type d Q)
    (hs : OpensF P fs (off + d.sz) d' Q') : OpensF P (f :: fs) off (Kd.pair d d') (fun x => Q x.1 ∧ Q' x.2) := by
  intro H enc w base spare held n cs hl hx
  have hl' : cs.length = off + (d.sz + d'.sz) := hl
  obtain ⟨x, hx0⟩ := hx 0 f rfl
  obtain ⟨a, ha, hq⟩ := h H enc w base spare held n _ x hx0
  obtain ⟨b, hb, hq'⟩ := hs H enc w base spare held n cs (by omega) (fun i f hf => hx (i + 1) f hf)
  rw [ho, hc] at ha
  refine ⟨(a, b), ⟨(cs.drop off).take d.sz, cs.drop (off + d.sz), ?_, ha, hb⟩, hq, hq'⟩
  rw [← List.drop_drop, List.take_append_drop]
theorem o_struct {α : Type} {t : TypeId} {fs : Array Field} {d : Kd α} {Q : α → Prop} (ht : P.underlying t = some (.struct fs)) (hc : P.cellsOf t = d.sz) (h : OpensF P fs.toList 0 d Q) : Opens P t d Q := by
  intro H enc w base spare held fuel cs x hx
  obtain ⟨xs, n, _, _, hl, hxs, hf⟩ := DataW.trod_struct ht hx
  have := h H enc w base spare held n cs (by omega) (fun i f hi => by
    rw [Array.getElem?_toList] at hi
    rw [hf i f hi]
    have : i < fs.size := by
      rcases Nat.lt_or_ge i fs.size with g | g
      · exact g
      · rw [Array.getElem?_eq_none g] at hi; cases hi
    exact ⟨_, List.getElem?_eq_getElem (by omega)⟩)
  simpa using this
theorem cells_get {w : World} {base : Nat} {a : Addr} {n : Nat} {cs : List Value} (h : w.cells? base a n = some cs) : cs.length = n ∧ ∀ (i : Nat) u, cs[i]? = some u → w.cell? (a.add i) = some u := by
  obtain ⟨_, hl, hi⟩ := World.cells?_some h
  refine ⟨hl, fun i u hu => ?_⟩
  have : i < n := by
    rcases Nat.lt_or_ge i cs.length with g | g
    · omega
    · rw [List.getElem?_eq_none g] at hu; cases hu
  rw [hi i this, hu]
theorem o_slice {α : Type} {t e : TypeId} {d : Kd α} {Q : α → Prop} (ht : P.underlying t = some (.slice e)) (hc : P.cellsOf e = d.sz) (h : Opens P e d Q) :
    Opens P t (Kd.slice e d) (fun l => l.length ≤ maxLen ∧ ∀ x ∈ l, Q x) := by
  intro H enc w base spare held fuel cs x hx
  cases fuel with
  | zero => simp [DataW.trod] at hx
  | succ n =>
    unfold DataW.trod at hx
    rw [ht] at hx
    split at hx
    all_goals first | (exfalso; simp_all; done) | skip
    · exact ⟨[], ⟨none, 0, rfl, Nat.le_refl _, Kd.C_nil _ _⟩, Nat.zero_le _, fun _ h => by cases h⟩
    · rename_i e' a len cap he
      obtain rfl : e = e' := by simpa using he
      split at hx
      · rename_i hb
        obtain ⟨hb1, hb2, hb3⟩ := hb
        rw [Option.bind_eq_some_iff] at hx
        obtain ⟨elems, hm, _⟩ := hx
        obtain ⟨hl, hg⟩ := mapM_get hm
        rw [List.length_range] at hl
        have each : ∀ i, i < len → ∃ c : List Value, c.length = d.sz ∧ (∃ a, d.K w a c ∧ Q a) ∧ ∀ j u, c[j]? = some u → w.cell? (a.add (i * d.sz + j)) = some u := by
          intro i hi
          obtain ⟨b, hb, _⟩ := hg i i (by simp [hi])
          rw [Option.bind_eq_some_iff] at hb
          obtain ⟨c, hc1, hc2⟩ := hb
          obtain ⟨hl1, hl2⟩ := cells_get hc1
          obtain ⟨z, hz, hq⟩ := h H enc w base spare held n c b hc2
          refine ⟨c, by omega, ⟨z, hz, hq⟩, fun j u hu => ?_⟩
          have := hl2 j u hu
          rw [hc] at this
          rw [← this, Addr.add_add]
        have pick : ∀ m, m ≤ len → ∃ l : List α, l.length = m ∧ (∀ x ∈ l, Q x) ∧ ∀ j p, l[j]? = some p → ∃ c : List Value, c.length = d.sz ∧ d.K w p c ∧ ∀ i u, c[i]? = some u → w.cell? (a.add (j * d.sz + i)) = some u := by
          intro m
          induction m with
          | zero => exact fun _ => ⟨[], rfl, fun _ h => by (cases h), fun j p h => by simp at h⟩
          | succ m ih =>
            intro hm
            obtain ⟨l, h1, h2, h3⟩ := ih (by omega)
            obtain ⟨c, c1, ⟨z, c2, c3⟩, c4⟩ := each m (by omega)
            refine ⟨l ++ [z], by simp [h1], ?_, ?_⟩
            · intro x hx
              rcases List.mem_append.1 hx with hx | hx
              · exact h2 x hx
              · rw [List.mem_singleton.1 hx]; exact c3
            · intro j p hp
              rcases Nat.lt_or_ge j m with g | g
              · rw [List.getElem?_append_left (by omega)] at hp
                exact h3 j p hp
              · rw [List.getElem?_append_right (by omega)] at hp
                have hj : j = m := by
                  rcases Nat.lt_or_ge (j - l.length) 1 with g2 | g2
                  · omega
                  · rw [List.getElem?_eq_none (by simpa using g2)] at hp; cases hp
                subst hj
                rw [h1, Nat.sub_self] at hp
                simp at hp
                subst hp
                exact ⟨c, c1, c2, c4⟩
        obtain ⟨l, l1, l2, l3⟩ := pick len (Nat.le_refl _)
        subst l1
        refine ⟨l, ⟨some a, cap, rfl, hb2, ⟨rfl, ?_, fun _ => ⟨a, rfl, l3⟩⟩⟩, Nat.le_trans hb2 hb3, l2⟩
        have : maxLen ≤ 9223372036854775807 := by unfold maxLen; omega
        omega
      · cases hx
/-- An argument, opened. -/
theorem open_arg {α : Type} {t : TypeId} {d : Kd α} {Q : α → Prop} (h : Opens P t d Q) {H : Type} {enc : TypeId × Value → H} {w : World} {base : Nat} {spare : Nat → Bool} {held : Bool} {v : Value} {D : DataW H} {ps : List MemPlace}
    (hx : DataW.Trod enc P w base spare held t v D ps) : ∃ a, d.K w a v.cells.toList ∧ Q a := by
  obtain ⟨fuel, hf⟩ := hx
  exact h H enc w base spare held fuel _ _ hf
/-- A value of a struct type is its cells. -/
theorem agg_of {r : Reach} {b0 : Nat} {t : TypeId} {fs : Array Field} {w : World} {v : Value} (hs : P.underlying t = some (.struct fs)) (hv : Value.okWide P w r b0 t v) {cs : List Value} (h : v.cells.toList = cs) : v = .agg cs.toArray := by
  obtain ⟨c, rfl, _⟩ := WideShapes.okWide_struct hs hv
  subst h
  simp [Value.cells]
end Go.Proofs.YtabljieejnhefaaDoor.Opens
