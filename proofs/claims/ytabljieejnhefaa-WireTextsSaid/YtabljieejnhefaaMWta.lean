/- Texts of this claim, put together. -/
import Derived.ProofKit
import Derived.OpenShut
import Derived.DataReads
import Derived.DataElems
import Derived.SizedLaws
import Derived.Laws.Cover2
import Derived.Test.YtabljieejnhefaaMWtWWords
import Derived.Test.YtabljieejnhefaaProg
import Derived.WalkKit
import Derived.WalkSpells
import Derived.WalkLawsBesides
import Derived.Defers
import Derived.Recover
import Derived.Deep.QuietTactic
import Derived.BigQuiet
import Derived.Test.YtabljieejnhefaaMWtWMore
import Derived.Test.YtabljieejnhefaaMWtWLast
import Derived.StillTailTactics
import Derived.Deep.RegionHeld3
import Derived.Below
import Derived.Deep.Draws
import Derived.Deep.AppendLies
import Derived.Maps.AppendAt
import Derived.OwnWalk
import Derived.Laws.BytesArg
import Derived.Laws.MakeOwn
import Derived.Laws.OwnMore
import Derived.Deep.OwnRows
import Derived.Tactics
import Derived.Lib.ConvBytes
import Derived.Laws.Slices
import Derived.KernelRfl
import Derived.RowKit3
import Derived.Deep.LoopGhost
import Derived.WideLaws
import Derived.Deep.DeepCutAuto
import Derived.Deep.CutBlock
import Derived.Laws.Rows
import Derived.Lib.AppendStr
import Derived.ArgAppend
import Derived.Laws.IdiomCopy
import Derived.OrdersHeld
import Derived.Laws.BitsLemmas
import Derived.RowKit
import Derived.Test.YtabljieejnhefaaMWtWTab
import Derived.Test.YtabljieejnhefaaMWtWApart
import Derived.Test.YtabljieejnhefaaMWtWFoot
import Derived.Test.YtabljieejnhefaaMWtWShare
import Derived.Test.YtabljieejnhefaaMWtWN
import Derived.Laws.StructEq
import Derived.Test.YtabljieejnhefaaMWtWRepsOne
import Derived.Lib.SlBytesConst
import Derived.Laws.BitsAllLaws
import Derived.Laws.Append
set_option linter.unusedVariables false
set_option linter.unusedSimpArgs false
namespace Go.Proofs.Ytabljieejnhefaa.Opens
open Go.RowKit Go.Proofs.YtabljieejnhefaaW.PrintWords
variable {P : Program}
def Opens {α : Type} (P : Program) (t : TypeId) (d : Kd α) (Q : α → Prop) : Prop :=
  ∀ (H : Type) (enc : TypeId × Value → H) (w : World) (base : Nat) (spare : Nat → Bool) (held : Bool) (fuel : Nat) (cs : List Value) (x : DataW H × List MemPlace),
    DataW.trod enc P w base spare held fuel t cs = some x → ∃ a, d.K w a cs ∧ Q a
theorem o_str {t : TypeId} (h : P.underlying t = some .string) : Opens P t Kd.string (fun s => s.size ≤ maxLen) := by
  intro H enc w base spare held fuel cs x hx
  obtain ⟨n, rfl, _, hw⟩ := DataW.trod_string h hx
  exact ⟨n, rfl, hw⟩
theorem mapM_get {α β : Type} {f : α → Option β} : ∀ {l : List α} {r : List β}, l.mapM f = some r → r.length = l.length ∧ ∀ (i : Nat) a, l[i]? = some a → ∃ b, f a = some b ∧ r[i]? = some b
  | [], r, h => by
    simp at h
    subst h
    exact ⟨rfl, fun i a h => by simp at h⟩
  | x :: l, r, h => by
    rw [List.mapM_cons] at h
    cases hx : f x with
    | none => simp [hx] at h
    | some y =>
      cases hl : l.mapM f with
      | none => simp [hx, hl] at h
      | some ys =>
        simp [hx, hl] at h
        subst h
        obtain ⟨h1, h2⟩ := mapM_get hl
        refine ⟨by simp [h1], fun i a ha => ?_⟩
        cases i with
        | zero =>
          simp at ha
          subst ha
          exact ⟨y, hx, by simp⟩
        | succ i => exact h2 i a (by simpa using ha)
theorem sized_any {H : Type} {enc : TypeId × Value → H} {W : World} {base : Nat} {spare : Nat → Bool} {held : Bool} {t e : TypeId} {a : Option Addr} {len cap : Nat} {d : DataW H} {ps : List MemPlace} {ts : List TypeId} {ds : List (DataW H)} {j : Nat}
    (hsz : (DataW.weightsEach P ts ds).all (· ≤ reachBytes) = true) (ht : ts[j]? = some t) (hd : ds[j]? = some d) (hu : P.underlying t = some (.slice e))
    (h : DataW.Trod enc P W base spare held t (.slice a len cap) d ps) : len * P.bytesOf e ≤ 140737488351232 := by
  obtain ⟨fuel, hf⟩ := h
  cases fuel with
  | zero => simp [DataW.trod] at hf
  | succ n =>
    unfold DataW.trod at hf
    rw [hu] at hf
    simp only [Value.cells] at hf
    split at hf
    all_goals first | (exfalso; simp_all; done) | skip
    · rename_i he
      simp at he
      obtain ⟨_, rfl, _⟩ := he
      simp
    · rename_i e' a' len' cap' he1 he2
      obtain rfl : e = e' := by simpa using he1
      simp at he2
      obtain ⟨rfl, rfl, rfl⟩ := he2
      split at hf
      · rw [Option.bind_eq_some_iff] at hf
        obtain ⟨elems, hm, hf⟩ := hf
        rw [Option.map_eq_some_iff] at hf
        obtain ⟨rest, _, hf⟩ := hf
        obtain ⟨hx, _⟩ := Prod.mk.inj hf
        subst hx
        have z := sized_slice hsz ht hd hu
        have hl := (mapM_get hm).1
        rw [List.length_range] at hl
        rw [List.length_map, List.length_map, hl] at z
        have : len * P.bytesOf e ≤ (len + rest.length) * P.bytesOf e := Nat.mul_le_mul_right _ (by omega)
        have z2 : reachBytes = 140737488351232 := rfl
        omega
      · cases hf
theorem cells_get {w : World} {base : Nat} {a : Addr} {n : Nat} {cs : List Value} (h : w.cells? base a n = some cs) : cs.length = n ∧ ∀ (i : Nat) u, cs[i]? = some u → w.cell? (a.add i) = some u := by
  obtain ⟨_, hl, hi⟩ := World.cells?_some h
  refine ⟨hl, fun i u hu => ?_⟩
  have : i < n := by
    rcases Nat.lt_or_ge i cs.length with g | g
    · omega
    · rw [List.getElem?_eq_none g] at hu; cases hu
  rw [hi i this, hu]
theorem o_slice {α : Type} {t e : TypeId} {d : Kd α} {Q : α → Prop} (ht : P.underlying t = some (.slice e)) (hc : P.cellsOf e = d.sz) (h : Opens P e d Q) :
    Opens P t (Kd.slice e d) (fun l => l.length ≤ maxLen ∧ ∀ x ∈ l, Q x) := by
  intro H enc w base spare held fuel cs x hx
  cases fuel with
  | zero => simp [DataW.trod] at hx
  | succ n =>
    unfold DataW.trod at hx
    rw [ht] at hx
    split at hx
    all_goals first | (exfalso; simp_all; done) | skip
    · exact ⟨[], ⟨none, 0, rfl, Nat.le_refl _, Kd.C_nil _ _⟩, Nat.zero_le _, fun _ h => by cases h⟩
    · rename_i e' a len cap he
      obtain rfl : e = e' := by simpa using he
      split at hx
      · rename_i hb
        obtain ⟨hb1, hb2, hb3⟩ := hb
        rw [Option.bind_eq_some_iff] at hx
        obtain ⟨elems, hm, _⟩ := hx
        obtain ⟨hl, hg⟩ := mapM_get hm
        rw [List.length_range] at hl
        have each : ∀ i, i < len → ∃ c : List Value, c.length = d.sz ∧ (∃ a, d.K w a c ∧ Q a) ∧ ∀ j u, c[j]? = some u → w.cell? (a.add (i * d.sz + j)) = some u := by
          intro i hi
          obtain ⟨b, hb, _⟩ := hg i i (by simp [hi])
          rw [Option.bind_eq_some_iff] at hb
          obtain ⟨c, hc1, hc2⟩ := hb
          obtain ⟨hl1, hl2⟩ := cells_get hc1
          obtain ⟨z, hz, hq⟩ := h H enc w base spare held n c b hc2
          refine ⟨c, by omega, ⟨z, hz, hq⟩, fun j u hu => ?_⟩
          have := hl2 j u hu
          rw [hc] at this
          rw [← this, Addr.add_add]
        have pick : ∀ m, m ≤ len → ∃ l : List α, l.length = m ∧ (∀ x ∈ l, Q x) ∧ ∀ j p, l[j]? = some p → ∃ c : List Value, c.length = d.sz ∧ d.K w p c ∧ ∀ i u, c[i]? = some u → w.cell? (a.add (j * d.sz + i)) = some u := by
          intro m
          induction m with
          | zero => exact fun _ => ⟨[], rfl, fun _ h => by (cases h), fun j p h => by simp at h⟩
          | succ m ih =>
            intro hm
            obtain ⟨l, h1, h2, h3⟩ := ih (by omega)
            obtain ⟨c, c1, ⟨z, c2, c3⟩, c4⟩ := each m (by omega)
            refine ⟨l ++ [z], by simp [h1], ?_, ?_⟩
            · intro x hx
              rcases List.mem_append.1 hx with hx | hx
              · exact h2 x hx
              · rw [List.mem_singleton.1 hx]; exact c3
            · intro j p hp
              rcases Nat.lt_or_ge j m with g | g
              · rw [List.getElem?_append_left (by omega)] at hp
                exact h3 j p hp
              · rw [List.getElem?_append_right (by omega)] at hp
                have hj : j = m := by
                  rcases Nat.lt_or_ge (j - l.length) 1 with g2 | g2
                  · omega
                  · rw [List.getElem?_eq_none (by simpa using g2)] at hp; cases hp
                subst hj
                rw [h1, Nat.sub_self] at hp
                simp at hp
                subst hp
                exact ⟨c, c1, c2, c4⟩
        obtain ⟨l, l1, l2, l3⟩ := pick len (Nat.le_refl _)
        subst l1
        refine ⟨l, ⟨some a, cap, rfl, hb2, ⟨rfl, ?_, fun _ => ⟨a, rfl, l3⟩⟩⟩, Nat.le_trans hb2 hb3, l2⟩
        have : maxLen ≤ 9223372036854775807 := by unfold maxLen; omega
        omega
      · cases hx
theorem open_arg {α : Type} {t : TypeId} {d : Kd α} {Q : α → Prop} (h : Opens P t d Q) {H : Type} {enc : TypeId × Value → H} {w : World} {base : Nat} {spare : Nat → Bool} {held : Bool} {v : Value} {D : DataW H} {ps : List MemPlace}
    (hx : DataW.Trod enc P w base spare held t v D ps) : ∃ a, d.K w a v.cells.toList ∧ Q a := by
  obtain ⟨fuel, hf⟩ := hx
  exact h H enc w base spare held fuel _ _ hf
end Go.Proofs.Ytabljieejnhefaa.Opens
namespace Go.Proofs.Ytabljieejnhefaa.Hand
open Go.RowKit Go.Proofs.YtabljieejnhefaaW.PrintWords Go.Proofs.YtabljieejnhefaaW.PrintLast
structure Mu (S : Nat → Prop) (w w' : World) : Prop where
  os : w'.os = w.os
  tape : w'.tape = w.tape
  output : w'.output = w.output
  size : w.heap.size ≤ w'.heap.size
  block : ∀ k, k < w.heap.size → ¬ S k → w'.heap[k]? = w.heap[k]?
theorem Mu.refl (S : Nat → Prop) (w : World) : Mu S w w := ⟨rfl, rfl, rfl, Nat.le_refl _, fun _ _ _ => rfl⟩
theorem Mu.trans {S : Nat → Prop} {a b c : World} (h : Mu S a b) (k : Mu S b c) : Mu S a c :=
  ⟨k.os.trans h.os, k.tape.trans h.tape, k.output.trans h.output, Nat.le_trans h.size k.size, fun i hi hs => (k.block i (Nat.lt_of_lt_of_le hi h.size) hs).trans (h.block i hi hs)⟩
theorem Mu.mono {S T : Nat → Prop} {w w' : World} (h : Mu S w w') (hST : ∀ k, k < w.heap.size → S k → T k) : Mu T w w' := ⟨h.os, h.tape, h.output, h.size, fun k hk ht => h.block k hk (fun hs => ht (hST k hk hs))⟩
theorem Mu.drewN {S : Nat → Prop} {a w : World} (h : Mu S a w) (n : Nat) : Mu S a (w.drewN n) := ⟨h.os, h.tape, h.output, h.size, h.block⟩
theorem Mu.drew {S : Nat → Prop} {a w : World} (h : Mu S a w) : Mu S a w.drew := ⟨h.os, h.tape, h.output, h.size, h.block⟩
theorem Mu.alloc {S : Nat → Prop} {a w : World} (h : Mu S a w) (o : Obj) : Mu S a (w.alloc o) :=
  h.trans ⟨rfl, rfl, rfl, by simp, fun k hk _ => Below.heap_alloc _ _ _ hk⟩
theorem Mu.setCell {S : Nat → Prop} {a w : World} (h : Mu S a w) {p : Addr} (hp : p.block < a.heap.size → S p.block) (u : Value) : Mu S a (w.setCell p u) :=
  ⟨h.os, h.tape, h.output, by simpa [World.setCell] using h.size, fun k hk hs => (Below.heap_setCell _ _ _ _ (fun e => hs (by rw [e]; exact hp (by omega)))).trans (h.block k hk hs)⟩
theorem Mu.of_below {w w' : World} (h : Below w.heap.size w w') (S : Nat → Prop) : Mu S w w' := ⟨h.os, h.tape, h.output, h.size, fun k hk _ => h.block k hk⟩
theorem Mu.below_of {S : Nat → Prop} {w0 w w' : World} (hb : Below w0.heap.size w0 w) (h : Mu S w w') (hS : ∀ k, k < w0.heap.size → ¬ S k) : Below w0.heap.size w0 w' :=
  hb.trans ⟨h.os, h.tape, h.output, h.size, fun k hk => h.block k (Nat.lt_of_lt_of_le hk hb.size) (hS k hk)⟩
theorem heap_lt {w : World} {g : Nat} {o : Obj} (h : w.heap[g]? = some o) : g < w.heap.size := by
  rcases Nat.lt_or_ge g w.heap.size with h1 | h1
  · exact h1
  · rw [Array.getElem?_eq_none h1] at h; cases h
theorem Mu.heap {S : Nat → Prop} {w w' : World} (h : Mu S w w') {g : Nat} {o : Obj} (hg : w.heap[g]? = some o) (hs : ¬ S g) : w'.heap[g]? = some o := (h.block g (heap_lt hg) hs).trans hg
theorem C_mu {k : IntKind} {S : Nat → Prop} {w w' : World} (h : Mu S w w') {A : Option Addr} {n : Nat} {l : List Int} (hC : Kd.C (Kd.int k) w A n l) (hA : ∀ ad, A = some ad → 0 < n → ¬ S ad.block) : Kd.C (Kd.int k) w' A n l := by
  obtain ⟨h1, h2, h3⟩ := hC
  refine ⟨h1, h2, fun hn => ?_⟩
  obtain ⟨ad, e, hc⟩ := h3 hn
  refine ⟨ad, e, fun j p hj => ?_⟩
  obtain ⟨c, c1, c2, c3⟩ := hc j p hj
  refine ⟨c, c1, c2, fun i u hu => ?_⟩
  have := c3 i u hu
  have hb : (ad.add (j * (Kd.int k).sz + i)).block = ad.block := by unfold Addr.add; split <;> rfl
  have hlt := World.block_lt_of_cell? _ _ this
  rw [World.cell?_of_block (w := w)]
  · exact this
  · rw [hb] at hlt ⊢
    exact h.block _ hlt (hA ad e hn)
def IsRd (w : World) (F : Nat → Prop) (g : Nat) (l : List Int) (at_ e : Int) : Prop :=
  ∃ (A : Option Addr) (c : Nat), F g ∧ w.heap[g]? = some (.cells #[.slice A l.length c, .int .i64 at_, .int .i64 e] 57 (0, 0)) ∧ l.length ≤ c ∧ Kd.C (Kd.int .u8) w A l.length l ∧
    (∀ ad, A = some ad → 0 < l.length → F ad.block ∧ ad.block ≠ g)
theorem IsRd.mu {w w' : World} {S F : Nat → Prop} {g : Nat} {l : List Int} {at_ e : Int} (h : IsRd w F g l at_ e) (hm : Mu S w w') (hF : ∀ k, F k → ¬ S k) : IsRd w' F g l at_ e := by
  obtain ⟨A, c, h1, h2, h3, h4, h5⟩ := h
  exact ⟨A, c, h1, hm.heap h2 (hF g h1), h3, C_mu hm h4 (fun ad ea hn => hF _ (h5 ad ea hn).1), h5⟩
theorem IsRd.len {w : World} {F : Nat → Prop} {g : Nat} {l : List Int} {at_ e : Int} (h : IsRd w F g l at_ e) : l.length ≤ 9223372036854775807 := by
  obtain ⟨A, c, h1, h2, h3, h4, h5⟩ := h
  exact h4.2.1
theorem IsRd.put {w w' : World} {F : Nat → Prop} {g : Nat} {l : List Int} {at_ e at' e' : Int} (h : IsRd w F g l at_ e) (hm : Mu (· = g) w w')
    (hg : ∀ v : Value, w.heap[g]? = some (.cells #[v, .int .i64 at_, .int .i64 e] 57 (0, 0)) → w'.heap[g]? = some (.cells #[v, .int .i64 at', .int .i64 e'] 57 (0, 0))) : IsRd w' F g l at' e' := by
  obtain ⟨A, c, h1, h2, h3, h4, h5⟩ := h
  exact ⟨A, c, h1, hg _ h2, h3, C_mu hm h4 (fun ad ea hn => (h5 ad ea hn).2), h5⟩
theorem add_block (ad : Addr) (n : Nat) : (ad.add n).block = ad.block := by unfold Addr.add; split <;> rfl
theorem set_at {w : World} {g t : Nat} {v a e x : Value} (h : w.heap[g]? = some (.cells #[v, a, e] t (0, 0))) : (w.setCell ⟨g, 1, none⟩ x).heap[g]? = some (.cells #[v, x, e] t (0, 0)) := by
  simp [World.setCell, Array.getElem?_modify, h]
theorem set_e {w : World} {g t : Nat} {v a e x : Value} (h : w.heap[g]? = some (.cells #[v, a, e] t (0, 0))) : (w.setCell ⟨g, 2, none⟩ x).heap[g]? = some (.cells #[v, a, x] t (0, 0)) := by
  simp [World.setCell, Array.getElem?_modify, h]
set_option maxHeartbeats 1000000 in
theorem byte_ok {w : World} {F : Nat → Prop} {g : Nat} {l : List Int} {at_ e : Int} (hI : IsRd w F g l at_ e) (h0 : 0 ≤ at_) (h1 : at_ < l.length) :
    Calls Try.prog 44 #[.pointer (some ⟨g, 0, none⟩)] w fun en w' => en = .returned (.int .u8 (rd l at_)) ∧ IsRd w' F g l (at_ + 1) e ∧ Mu (· = g) w w' := by
  have HI := Aside0.mk hI
  obtain ⟨A, c, i1, i2, i3, i4, i5⟩ := hI
  have I2 := Aside0.mk i2
  have hlen := i4.2.1
  have c0 := blk_cell i2 0
  have c1 := blk_cell i2 1
  have fz := blk_frozen i2 1
  obtain ⟨ad, ea, hx⟩ := Kd.at_int i4 at_ h0 h1
  subst ea
  have hne : ad.block ≠ g := (i5 ad rfl (by omega)).2
  clear i1 i2 i4 i5
  have ht : (at_ == (l.length : Int)) = false := beq_eq_false_iff_ne.2 (by omega)
  go_enter Try.func44, Try.ntmps44
  go_wp2
  go_quiet (fail)
  go_wp2
  obtain ⟨W1, hW1⟩ : ∃ W1, (w.drewN nq).setCell ⟨g, 1, none⟩ (.int .i64 (at_ + 1)) = W1 := ⟨_, rfl⟩
  rw [hW1]
  have J2 : W1.heap[g]? = some (.cells #[.slice (some ad) l.length c, .int .i64 (at_ + 1), .int .i64 e] 57 (0, 0)) := by rw [← hW1]; exact set_at I2.out
  have hm : Mu (· = g) w W1 := by rw [← hW1]; exact ((Mu.refl (· = g) w).drewN _).setCell (p := ⟨g, 1, none⟩) (fun _ => rfl) _
  have hx1 : W1.cell? (ad.add at_.toNat) = some (.int .u8 (rd l at_)) := by
    rw [← hx, ← hW1]
    exact World.cell?_of_block (w := w) (Below.heap_setCell _ _ _ _ (by rw [add_block]; exact hne))
  have d0 := blk_cell J2 0
  have d1 := blk_cell J2 1
  clear hW1 c0 c1 fz hx
  go_quiet (fail)
  go_wp2
  go_ret
  have h3 : Mu (· = g) w (W1.drewN nq) := hm.drewN nq
  refine ⟨rfl, HI.out.put h3 (fun v hv => ?_), h3⟩
  rw [I2.out] at hv
  obtain rfl : Value.slice (some ad) l.length c = v := by
    injection hv with hv
    injection hv with hv
    simpa using hv
  exact J2
set_option maxHeartbeats 1000000 in
theorem byte_short {w : World} {F : Nat → Prop} {g : Nat} {l : List Int} {at_ e : Int} (hI : IsRd w F g l at_ e) (h1 : at_ = l.length) :
    Calls Try.prog 44 #[.pointer (some ⟨g, 0, none⟩)] w fun en w' => en = .panicked [{ v := .iface 63 (.agg #[.int .i64 3]), recovered := false }] ∧ IsRd w' F g l at_ e ∧ Mu (· = g) w w' := by
  have HI := Aside0.mk hI
  obtain ⟨A, c, i1, i2, i3, i4, i5⟩ := hI
  have hlen := i4.2.1
  have c0 := blk_cell i2 0
  have c1 := blk_cell i2 1
  clear i1 i2 i4 i5
  have ht : (at_ == (l.length : Int)) = true := beq_iff_eq.2 (by omega)
  have H1 := Aside0.mk h1
  clear h1
  go_enter Try.func44, Try.ntmps44
  go_wp2
  go_quiet (fail)
  go_wp2
  exact ⟨rfl, rfl, HI.out.put ((Mu.refl _ _).drewN nq) (fun v hv => hv), (Mu.refl _ _).drewN nq⟩
end Go.Proofs.Ytabljieejnhefaa.Hand
namespace Go.Proofs.Ytabljieejnhefaa.Hand
open Go.RowKit Go.Proofs.YtabljieejnhefaaW.PrintWords Go.Proofs.YtabljieejnhefaaW.PrintLast
def stopV (e : Int) : List PanicEntry := [{ v := .iface 63 (.agg #[.int .i64 e]), recovered := false }]
def vstep (n c : Int) (i : Nat) : Int := Go.bits .or .u64 n (IntKind.u64.wrap (IntKind.u64.wrap (Go.bits .andNot .u8 c 128) * 2 ^ (7 * i)))
def numL (l : List Int) : Nat → Nat → Int → Int → Except Int (Int × Int)
  | 0, _, _, _ => .error 2
  | k + 1, i, n, at_ => if at_ = l.length then .error 3 else if (i = 9 ∧ rd l at_ > 1) ∨ (rd l at_ = 0 ∧ 0 < i) then .error 2 else
    if rd l at_ < 128 then .ok (vstep n (rd l at_) i, at_ + 1) else numL l k (i + 1) (vstep n (rd l at_) i) (at_ + 1)
def NumPost (F : Nat → Prop) (g : Nat) (l : List Int) (e : Int) (w : World) (enc : Int → Value) : Except Int (Int × Int) → Ending → World → Prop
  | .ok (n, at'), en, w' => en = .returned (enc n) ∧ IsRd w' F g l at' e ∧ at' ≤ l.length ∧ 0 ≤ at' ∧ Mu (· = g) w w'
  | .error x, en, w' => en = .panicked (stopV x) ∧ (∃ at', IsRd w' F g l at' e) ∧ Mu (· = g) w w'
set_option maxHeartbeats 2000000 in
theorem num_as {w : World} {F : Nat → Prop} {g : Nat} {l : List Int} {at_ e : Int} {R : Except Int (Int × Int)} (hR : numL l 10 0 0 at_ = R) (hI : IsRd w F g l at_ e) (h0 : 0 ≤ at_) (h1 : at_ ≤ l.length) :
    Calls Try.prog 33 #[.pointer (some ⟨g, 0, none⟩)] w (NumPost F g l e w (Value.int .u64) R) := by
  have HI := Aside0.mk hI
  have HR0 := Aside0.mk hR
  clear hR
  have hlen := hI.len
  clear hI
  go_enter Try.func33, Try.ntmps33
  go_wp2
  go_loopw [3, 6] (fun v3 v6 wr => ∃ (i : Nat) (n p : Int), i ≤ 10 ∧ v6 = .int .i64 i ∧ v3 = .int .u64 n ∧ 0 ≤ p ∧ p ≤ l.length ∧ Aside0 (numL l (10 - i) i n p = R) ∧ Aside0 (IsRd wr F g l p e) ∧ Aside0 (Mu (· = g) w wr)) (fun _ v6 _ => 10 - (intOf v6).toNat)
  case atStart => exact ⟨0, 0, at_, by omega, rfl, rfl, h0, h1, HR0, HI, ⟨Mu.refl _ _⟩⟩
  case round =>
    obtain ⟨i, n, p, hi, rfl, rfl, p0, p1, HN, HR, HM⟩ := hrel
    clear HI HR0 h0 h1
    by_cases hlt : i < 10
    · have hk : 10 - i = (9 - i) + 1 := by omega
      by_cases hp : p = l.length
      · have hr : R = .error 3 := by rw [← HN.out, hk]; simp only [numL]; rw [if_pos hp]
        have HP := Aside0.mk hp
        clear hp hk
        have Hr := Aside0.mk hr
        clear hr HN
        go_wp2_with fail
        refine (byte_short HR.out HP.out).mono ?_
        rintro en w1 ⟨rfl, hI1, hm1⟩
        refine ⟨rfl, ?_⟩
        rw [Hr.out]
        exact ⟨rfl, ⟨_, hI1⟩, HM.out.trans hm1⟩
      · have hp' : p < l.length := by omega
        have hr : R = if (i = 9 ∧ rd l p > 1) ∨ (rd l p = 0 ∧ 0 < i) then .error 2 else if rd l p < 128 then .ok (vstep n (rd l p) i, p + 1) else numL l (9 - i) (i + 1) (vstep n (rd l p) i) (p + 1) := by
          rw [← HN.out, hk]; simp only [numL]; rw [if_neg hp]
        have HP := Aside0.mk hp
        clear hp hk HN
        go_wp2_with fail
        refine (byte_ok HR.out p0 hp').mono ?_
        rintro en w1 ⟨rfl, hI1, hm1⟩
        have HI1 := Aside0.mk hI1
        have HM1 := Aside0.mk (HM.out.trans hm1)
        clear hI1 hm1 HR HM
        generalize rd l p = c at *
        by_cases hA : i = 9 ∧ 1 < c
        · rw [if_pos (.inl hA)] at hr
          obtain ⟨a1, a2⟩ := hA
          have e1 : ((i : Int) == 9) = true := beq_iff_eq.2 (by omega)
          clear a1
          have Hr := Aside0.mk hr
          clear hr
          go_wp2
          refine ⟨rfl, ?_⟩
          rw [Hr.out]
          exact ⟨rfl, ⟨_, HI1.out⟩, HM1.out⟩
        · have e1 : (((i : Int) == 9) && decide (1 < c)) = false := by
            rw [Bool.and_eq_false_iff]
            by_cases h9 : i = 9
            · right; exact decide_eq_false (fun h => hA ⟨h9, h⟩)
            · left; exact beq_eq_false_iff_ne.2 (by omega)
          by_cases hB : c = 0 ∧ 0 < i
          · rw [if_pos (.inr hB)] at hr
            obtain ⟨a1, a2⟩ := hB
            have e2 : (c == 0) = true := beq_iff_eq.2 a1
            have e3 : decide (1 < c) = false := decide_eq_false (by omega)
            clear a1 e1 hA
            have Hr := Aside0.mk hr
            clear hr
            go_wp2
            all_goals
              refine ⟨rfl, ?_⟩
              rw [Hr.out]
              exact ⟨rfl, ⟨_, HI1.out⟩, HM1.out⟩
          · rw [if_neg (by rintro (h | h); exact hA h; exact hB h)] at hr
            have e2 : ((c == 0) && decide (0 < i)) = false := by
              rw [Bool.and_eq_false_iff]
              by_cases h9 : c = 0
              · right; exact decide_eq_false (fun h => hB ⟨h9, by omega⟩)
              · left; exact beq_eq_false_iff_ne.2 (by omega)
            clear hA hB
            have key : ∀ (x y : Bool), ((i : Int) == 9) = x → (c == 0) = y → (x = true → decide (1 < c) = false) ∧ (y = true → decide (0 < i) = false) := by
              intro x y hx hy
              rw [hx] at e1
              rw [hy] at e2
              constructor
              · rintro rfl; simpa using e1
              · rintro rfl; simpa using e2
            clear e1 e2
            by_cases h128 : c < 128
            · rw [if_pos h128] at hr
              have Hr := Aside0.mk hr
              clear hr
              cases e1 : ((i : Int) == 9) <;> cases e2 : (c == 0) <;> obtain ⟨k1, k2⟩ := key _ _ e1 e2 <;> clear key
              all_goals
                first | (have k3 := k1 rfl) | skip
                first | (have k4 := k2 rfl) | skip
                clear k1 k2
                first | (exfalso; simp at e1 k4; omega) | (go_wp2; go_ret; rw [Hr.out]; exact ⟨rfl, HI1.out, by omega, by omega, HM1.out⟩)
            · rw [if_neg h128] at hr
              have HN1 := Aside0.mk hr.symm
              clear hr
              cases e1 : ((i : Int) == 9) <;> cases e2 : (c == 0) <;> obtain ⟨k1, k2⟩ := key _ _ e1 e2 <;> clear key
              all_goals
                first | (have k3 := k1 rfl) | skip
                first | (have k4 := k2 rfl) | skip
                clear k1 k2
                first | (exfalso; simp at k3; omega) | (exfalso; simp at e2; omega) | (go_wp2; go_roundw)
                try case rel => exact ⟨i + 1, vstep n c i, p + 1, by omega, by go_num, rfl, by omega, by omega, ⟨by rw [show 10 - (i + 1) = 9 - i by omega]; exact HN1.out⟩, HI1, HM1⟩
                try case measure => simp [intOf]; omega
    · have hr : R = .error 2 := by rw [← HN.out, show 10 - i = 0 by omega]; rfl
      have Hr := Aside0.mk hr
      clear hr HN
      go_wp2
      refine ⟨rfl, ?_⟩
      rw [Hr.out]
      exact ⟨rfl, ⟨_, HR.out⟩, HM.out⟩
end Go.Proofs.Ytabljieejnhefaa.Hand
namespace Go.Proofs.Ytabljieejnhefaa.Hand
open Go.RowKit Go.Proofs.YtabljieejnhefaaW.PrintWords Go.Proofs.YtabljieejnhefaaW.PrintLast
theorem alloc_blk {w : World} {g : Nat} {o O : Obj} (h : w.heap[g]? = some o) : (w.alloc O).heap[g]? = some o := (Below.heap_alloc _ _ _ (heap_lt h)).trans h
set_option maxHeartbeats 1000000 in
theorem caught_nil {w : World} {p : Addr} :
    Calls Try.prog 43 #[.nilIface, .pointer (some p)] w fun en w' => en = .returned (.tuple #[]) ∧ w' = w := by
  go_enter Try.func43, Try.ntmps43
  go_wp2
  go_end0
  exact ⟨rfl, rfl⟩
set_option maxHeartbeats 1000000 in
theorem caught_stop {w : World} {g : Nat} {v a e : Value} {X : Int} (h : w.heap[g]? = some (.cells #[v, a, e] 57 (0, 0))) :
    Calls Try.prog 43 #[.iface 63 (.agg #[.int .i64 X]), .pointer (some ⟨g, 2, none⟩)] w fun en w' => en = .returned (.tuple #[]) ∧ w'.heap[g]? = some (.cells #[v, a, .int .i64 X] 57 (0, 0)) ∧ Mu (· = g) w w' := by
  have h1 := alloc_blk (O := .cells #[.int .i64 X] 63) h
  have c2 := blk_cell h1 2
  have fz := blk_frozen h1 2
  have hta : ∀ (v : Value) (W : World), (Instr.typeAssert (.iface 63 v) 20 63 true).run Try.prog W = .ok (.tuple #[v, .bool true]) W := fun v W => by rfl
  have H := Aside0.mk h1
  clear h h1
  go_enter Try.func43, Try.ntmps43
  go_wp2
  go_end0
  exact ⟨rfl, set_e H.out, ((Mu.refl (· = g) w).alloc _).setCell (p := ⟨g, 2, none⟩) (fun _ => rfl) _⟩
theorem set_0 {w : World} {g t : Nat} {v x : Value} (h : w.heap[g]? = some (.cells #[v] t (0, 0))) : (w.setCell ⟨g, 0, none⟩ x).heap[g]? = some (.cells #[x] t (0, 0)) := by
  simp [World.setCell, Array.getElem?_modify, h]
def allOrders (md : Region.Mode) (ops : Array Oper) : Nat → Array Bool → List (List Nat)
  | 0, _ => [[]]
  | fuel + 1, listed => match Region.ready md ops listed with
    | [] => [[]]
    | r => r.flatMap fun i => (allOrders md ops fuel (listed.setIfInBounds i true)).map (i :: ·)
theorem mem_allOrders (md : Region.Mode) (ops : Array Oper) : ∀ (fuel t : Nat) (listed : Array Bool), Region.linearise.go md ops fuel t listed [] ∈ allOrders md ops fuel listed := by
  intro fuel
  induction fuel with
  | zero => intro t listed; simp [Region.linearise.go, allOrders]
  | succ fuel ih =>
    intro t listed
    simp only [Region.linearise.go]
    change (match (Region.ready md ops listed)[t % (Region.ready md ops listed).length]? with
      | some i => Region.linearise.go md ops fuel (t / (Region.ready md ops listed).length) (listed.setIfInBounds i true) [i]
      | none => [].reverse) ∈ _
    cases hi : (Region.ready md ops listed)[t % (Region.ready md ops listed).length]? with
    | none =>
      have hnil : Region.ready md ops listed = [] := by
        cases hr : Region.ready md ops listed with
        | nil => rfl
        | cons x xs =>
          rw [hr] at hi
          have hlt : t % (x :: xs).length < (x :: xs).length := Nat.mod_lt _ (by simp)
          simp at hi
          simp at hlt
          omega
      simp [allOrders, hnil]
    | some i =>
      simp only []
      rw [linearise_go_acc, List.reverse_singleton, List.singleton_append]
      have hm := List.mem_of_getElem? hi
      unfold allOrders
      split
      · next h => rw [h] at hm; cases hm
      · exact List.mem_flatMap.2 ⟨i, hm, List.mem_map.2 ⟨_, ih _ _, rfl⟩⟩
theorem wpS_region_draw {P : Program} {Q : Exit → Act → List Frame → World → Prop} {a : Act} {cs : List Frame} {w : World} {id : Nat} {ops : Array Oper} (hm : P.follows .mixedOrders = true)
    {L : List (List Nat)} (hL : allOrders .any ops ops.size (Array.replicate ops.size false) = L) (h : ∀ l ∈ L, wpOpsS P ops Q l a cs { w with drawn := w.drawn + 1 }) : (Code.region id ops true).wpS P Q a cs w := by
  intro b k hb hr
  have hl := mem_allOrders .any ops ops.size (w.tape w.drawn (.order b.fn id)) (Array.replicate ops.size false)
  rw [hL] at hl
  obtain ⟨e, a', cs', w', q, r⟩ := wp_opsS _ a cs _ (h _ hl) b k hb hr
  refine ⟨e, a', cs', w', q, .of_steps (.one ?_) r⟩
  rw [step_region_draw]
  simp only [Region.schedule, hm, Bool.true_or, if_true]
  rfl
theorem wp_act {P : Program} {c : Code} {Q : Exit → Act → World → Prop} {a a' : Act} {w : World} (h : a = a') (k : Code.wp P c Q a' w) : Code.wp P c Q a w := h ▸ k
theorem wp_code {P : Program} {c c' : Code} {Q : Exit → Act → World → Prop} {a : Act} {w : World} (h : c = c') (k : Code.wp P c' Q a w) : Code.wp P c Q a w := h ▸ k
noncomputable def dU_rest : Code := match Try.f42.body with | some (.seq _ c) => c | _ => .skip
set_option maxHeartbeats 1000000 in
theorem dU_rest_stop {w w1 : World} {g pr pa pn px : Nat} {v a rv : Value} {X A : Int} (hX : (X != 0) = true) (nx : px ≠ g)
    (hg1 : w1.heap[g]? = some (.cells #[v, a, .int .i64 X] 57 (0, 0))) (hr1 : w1.heap[pr]? = some (.cells #[.pointer (some ⟨g, 0, none⟩)] 38 (0, 0)))
    (ha1 : w1.heap[pa]? = some (.cells #[.int .i64 A] 3 (0, 0))) (hn1 : w1.heap[pn]? = some (.cells #[.int .u64 0] 22 (0, 0))) (hx1 : w1.heap[px]? = some (.cells #[.int .u64 0] 22 (0, 0)))
    (hm1 : Mu (· = g) w w1) :
    Code.wp Try.prog dU_rest (fun e a' w' => e = .normal ∧ a'.defers = [] ∧ w'.heap[g]? = some (.cells #[v, .int .i64 A, .int .i64 X] 57 (0, 0)) ∧ w'.heap[px]? = some (.cells #[.int .u64 0] 22 (0, 0)) ∧ Mu (fun k => k = g ∨ k = px) w w')
      { tmps := #[.pointer (some ⟨pr, 0, none⟩), .pointer (some ⟨pa, 0, none⟩), .pointer (some ⟨pn, 0, none⟩), .pointer (some ⟨px, 0, none⟩), rv, .pointer (some ⟨g, 0, none⟩), .pointer (some ⟨g, 0, none⟩), .pointer (some ⟨g, 2, none⟩), .tuple #[], undef, undef, undef, undef, undef, undef, undef, undef, undef, undef], defers := [] } w1 := by
  have cr1 := blk_cell hr1 0
  have ca1 := blk_cell ha1 0
  have cn1 := blk_cell hn1 0
  have cg1 := blk_cell hg1 2
  have cg2 := blk_cell hg1 1
  have cx1 := blk_cell hx1 0
  have fg1 := blk_frozen hg1 1
  have fx1 := blk_frozen hx1 0
  have Hg1 := Aside0.mk hg1
  have Hx1 := Aside0.mk hx1
  have Hm1 := Aside0.mk hm1
  clear hg1 hm1 hr1 ha1 hn1 hx1
  unfold dU_rest Try.f42
  go_wp2
  refine ⟨?_, ?_, ?_⟩
  · rw [Below.heap_setCell _ _ _ _ (by exact fun e => nx e.symm)]
    exact set_at Hg1.out
  · exact set_0 ((Below.heap_setCell _ _ _ _ (by exact nx)).trans Hx1.out)
  · exact (((Mu.mono (Hm1.out) (fun k _ h => .inl h) : Mu (fun k => k = g ∨ k = px) w w1)).setCell (p := ⟨g, 1, none⟩) (fun _ => .inl rfl) _).setCell (p := ⟨px, 0, none⟩) (fun _ => .inr rfl) _
set_option maxHeartbeats 1000000 in
theorem dU_stop {w : World} {g pr pa pn px : Nat} {v a e : Value} {X A : Int} {older : List PanicEntry} (hX : (X != 0) = true) (nr : pr ≠ g) (na : pa ≠ g) (nn : pn ≠ g) (nx : px ≠ g)
    (hg : w.heap[g]? = some (.cells #[v, a, e] 57 (0, 0))) (hr : w.heap[pr]? = some (.cells #[.pointer (some ⟨g, 0, none⟩)] 38 (0, 0)))
    (ha : w.heap[pa]? = some (.cells #[.int .i64 A] 3 (0, 0))) (hn : w.heap[pn]? = some (.cells #[.int .u64 0] 22 (0, 0))) (hx : w.heap[px]? = some (.cells #[.int .u64 0] 22 (0, 0))) :
    CallsD Try.prog 42 #[.pointer (some ⟨pr, 0, none⟩), .pointer (some ⟨pa, 0, none⟩), .pointer (some ⟨pn, 0, none⟩), .pointer (some ⟨px, 0, none⟩)]
      (.panicking ({ v := .iface 63 (.agg #[.int .i64 X]), recovered := false } :: older)) w fun en u w' =>
      en = .returned (.tuple #[]) ∧ u = .panicking ({ v := .iface 63 (.agg #[.int .i64 X]), recovered := true } :: older) ∧
        w'.heap[g]? = some (.cells #[v, .int .i64 A, .int .i64 X] 57 (0, 0)) ∧ w'.heap[px]? = some (.cells #[.int .u64 0] 22 (0, 0)) ∧ Mu (fun k => k = g ∨ k = px) w w' := by
  refine callsD_of_wpS Try.func42 rfl fun c₀ cs hu => ?_
  have cr := blk_cell hr 0
  apply wpS_seq
  refine wpS_region_draw (by kernel_rfl) (L := [[0, 1, 2, 3, 4], [1, 0, 2, 3, 4], [1, 2, 0, 3, 4], [1, 2, 3, 0, 4]]) (by kernel_rfl) ?_
  intro l hl
  simp only [List.mem_cons, List.not_mem_nil, or_false] at hl
  have hg' : w.drew.heap[g]? = some (.cells #[v, a, e] 57 (0, 0)) := hg
  have fin : ∀ (en : Exit) (a' : Act) (w' : World), (en = .normal ∧ a'.defers = [] ∧ w'.heap[g]? = some (.cells #[v, .int .i64 A, .int .i64 X] 57 (0, 0)) ∧ w'.heap[px]? = some (.cells #[.int .u64 0] 22 (0, 0)) ∧ Mu (fun k => k = g ∨ k = px) w w') →
      bodyPostS Try.prog Try.f42 c₀ cs (fun en u w' => en = .returned (.tuple #[]) ∧ u = .panicking ({ v := .iface 63 (.agg #[.int .i64 X]), recovered := true } :: older) ∧
        w'.heap[g]? = some (.cells #[v, .int .i64 A, .int .i64 X] 57 (0, 0)) ∧ w'.heap[px]? = some (.cells #[.int .u64 0] 22 (0, 0)) ∧ Mu (fun k => k = g ∨ k = px) w w') en a'
        ({ c₀ with mode := .panicking ({ v := .iface 63 (.agg #[.int .i64 X]), recovered := true } :: older) } :: cs) w' := by
    rintro en a' w' ⟨rfl, hd, h1, h2, h3⟩
    exact ⟨hd, _, rfl, .tuple #[], results_none rfl _ _ _, rfl, rfl, h1, h2, h3⟩
  rcases hl with rfl | rfl | rfl | rfl
  all_goals
    simp [wpOpsS, go_sem, recoverD, hu, Try.ntmps42, cr]
    refine (caught_stop hg').mono ?_
    rintro en w1 ⟨rfl, hg1, hm1⟩
    refine wpS_of_wp ?_
    refine wp_act (a' := { tmps := #[.pointer (some ⟨pr, 0, none⟩), .pointer (some ⟨pa, 0, none⟩), .pointer (some ⟨pn, 0, none⟩), .pointer (some ⟨px, 0, none⟩), .iface 63 (.agg #[.int .i64 X]), .pointer (some ⟨g, 0, none⟩), .pointer (some ⟨g, 0, none⟩), .pointer (some ⟨g, 2, none⟩), .tuple #[], undef, undef, undef, undef, undef, undef, undef, undef, undef, undef], defers := [] }) (by kernel_rfl) ?_
    refine wp_code (c' := dU_rest) (by kernel_rfl) ?_
    exact Code.wp_mono fin (dU_rest_stop hX nx hg1 (hm1.heap (show w.drew.heap[pr]? = _ from hr) nr) (hm1.heap (show w.drew.heap[pa]? = _ from ha) na) (hm1.heap (show w.drew.heap[pn]? = _ from hn) nn) (hm1.heap (show w.drew.heap[px]? = _ from hx) nx) (Mu.trans ((Mu.refl _ _).drew) hm1))
set_option maxHeartbeats 1000000 in
theorem dU_rest_idle {w1 : World} {g pr : Nat} {v a p1 p2 p3 rv : Value}
    (hg1 : w1.heap[g]? = some (.cells #[v, a, .int .i64 0] 57 (0, 0))) (hr1 : w1.heap[pr]? = some (.cells #[.pointer (some ⟨g, 0, none⟩)] 38 (0, 0))) :
    Code.wp Try.prog dU_rest (fun e a' w' => e = .normal ∧ a'.defers = [] ∧ w' = w1)
      { tmps := #[.pointer (some ⟨pr, 0, none⟩), p1, p2, p3, rv, .pointer (some ⟨g, 0, none⟩), .pointer (some ⟨g, 0, none⟩), .pointer (some ⟨g, 2, none⟩), .tuple #[], undef, undef, undef, undef, undef, undef, undef, undef, undef, undef], defers := [] } w1 := by
  have cr1 := blk_cell hr1 0
  have cg1 := blk_cell hg1 2
  clear hg1 hr1
  unfold dU_rest Try.f42
  go_wp2
set_option maxHeartbeats 1000000 in
theorem dU_idle {w : World} {g pr : Nat} {v a p1 p2 p3 : Value}
    (hg : w.heap[g]? = some (.cells #[v, a, .int .i64 0] 57 (0, 0))) (hr : w.heap[pr]? = some (.cells #[.pointer (some ⟨g, 0, none⟩)] 38 (0, 0))) :
    CallsD Try.prog 42 #[.pointer (some ⟨pr, 0, none⟩), p1, p2, p3] .returning w fun en u w' =>
      en = .returned (.tuple #[]) ∧ u = .returning ∧ w' = w.drew := by
  refine callsD_of_wpS Try.func42 rfl fun c₀ cs hu => ?_
  have cr := blk_cell hr 0
  apply wpS_seq
  refine wpS_region_draw (by kernel_rfl) (L := [[0, 1, 2, 3, 4], [1, 0, 2, 3, 4], [1, 2, 0, 3, 4], [1, 2, 3, 0, 4]]) (by kernel_rfl) ?_
  intro l hl
  simp only [List.mem_cons, List.not_mem_nil, or_false] at hl
  have fin : ∀ (en : Exit) (a' : Act) (w' : World), (en = .normal ∧ a'.defers = [] ∧ w' = w.drew) →
      bodyPostS Try.prog Try.f42 c₀ cs (fun en u w' => en = .returned (.tuple #[]) ∧ u = .returning ∧ w' = w.drew) en a' (c₀ :: cs) w' := by
    rintro en a' w' ⟨rfl, hd, rfl⟩
    exact ⟨hd, .returning, by rw [← hu], .tuple #[], results_none rfl _ _ _, rfl, rfl, rfl⟩
  rcases hl with rfl | rfl | rfl | rfl
  all_goals
    simp [wpOpsS, go_sem, recoverD, hu, Try.ntmps42, cr]
    refine caught_nil.mono ?_
    rintro en w1 ⟨rfl, rfl⟩
    refine wpS_of_wp ?_
    refine wp_act (a' := { tmps := #[.pointer (some ⟨pr, 0, none⟩), p1, p2, p3, .nilIface, .pointer (some ⟨g, 0, none⟩), .pointer (some ⟨g, 0, none⟩), .pointer (some ⟨g, 2, none⟩), .tuple #[], undef, undef, undef, undef, undef, undef, undef, undef, undef, undef], defers := [] }) (by kernel_rfl) ?_
    refine wp_code (c' := dU_rest) (by kernel_rfl) ?_
    exact Code.wp_mono fin (dU_rest_idle hg hr)
noncomputable def dB_rest : Code := match Try.f45.body with | some (.seq _ c) => c | _ => .skip
set_option maxHeartbeats 1000000 in
theorem dB_rest_stop {w w1 : World} {g pr pa pn px : Nat} {v a rv : Value} {X A : Int} (hX : (X != 0) = true) (nx : px ≠ g)
    (hg1 : w1.heap[g]? = some (.cells #[v, a, .int .i64 X] 57 (0, 0))) (hr1 : w1.heap[pr]? = some (.cells #[.pointer (some ⟨g, 0, none⟩)] 38 (0, 0)))
    (ha1 : w1.heap[pa]? = some (.cells #[.int .i64 A] 3 (0, 0))) (hn1 : w1.heap[pn]? = some (.cells #[.slice none 0 0] 23 (0, 0))) (hx1 : w1.heap[px]? = some (.cells #[.slice none 0 0] 23 (0, 0)))
    (hm1 : Mu (· = g) w w1) :
    Code.wp Try.prog dB_rest (fun e a' w' => e = .normal ∧ a'.defers = [] ∧ w'.heap[g]? = some (.cells #[v, .int .i64 A, .int .i64 X] 57 (0, 0)) ∧ w'.heap[px]? = some (.cells #[.slice none 0 0] 23 (0, 0)) ∧ Mu (fun k => k = g ∨ k = px) w w')
      { tmps := #[.pointer (some ⟨pr, 0, none⟩), .pointer (some ⟨pa, 0, none⟩), .pointer (some ⟨pn, 0, none⟩), .pointer (some ⟨px, 0, none⟩), rv, .pointer (some ⟨g, 0, none⟩), .pointer (some ⟨g, 0, none⟩), .pointer (some ⟨g, 2, none⟩), .tuple #[], undef, undef, undef, undef, undef, undef, undef, undef, undef, undef], defers := [] } w1 := by
  have cr1 := blk_cell hr1 0
  have ca1 := blk_cell ha1 0
  have cn1 := blk_cell hn1 0
  have cg1 := blk_cell hg1 2
  have cg2 := blk_cell hg1 1
  have cx1 := blk_cell hx1 0
  have fg1 := blk_frozen hg1 1
  have fx1 := blk_frozen hx1 0
  have Hg1 := Aside0.mk hg1
  have Hx1 := Aside0.mk hx1
  have Hm1 := Aside0.mk hm1
  clear hg1 hm1 hr1 ha1 hn1 hx1
  unfold dB_rest Try.f45
  go_wp2
  refine ⟨?_, ?_, ?_⟩
  · rw [Below.heap_setCell _ _ _ _ (by exact fun e => nx e.symm)]
    exact set_at Hg1.out
  · exact set_0 ((Below.heap_setCell _ _ _ _ (by exact nx)).trans Hx1.out)
  · exact (((Mu.mono (Hm1.out) (fun k _ h => .inl h) : Mu (fun k => k = g ∨ k = px) w w1)).setCell (p := ⟨g, 1, none⟩) (fun _ => .inl rfl) _).setCell (p := ⟨px, 0, none⟩) (fun _ => .inr rfl) _
set_option maxHeartbeats 1000000 in
theorem dB_stop {w : World} {g pr pa pn px : Nat} {v a e : Value} {X A : Int} {older : List PanicEntry} (hX : (X != 0) = true) (nr : pr ≠ g) (na : pa ≠ g) (nn : pn ≠ g) (nx : px ≠ g)
    (hg : w.heap[g]? = some (.cells #[v, a, e] 57 (0, 0))) (hr : w.heap[pr]? = some (.cells #[.pointer (some ⟨g, 0, none⟩)] 38 (0, 0)))
    (ha : w.heap[pa]? = some (.cells #[.int .i64 A] 3 (0, 0))) (hn : w.heap[pn]? = some (.cells #[.slice none 0 0] 23 (0, 0))) (hx : w.heap[px]? = some (.cells #[.slice none 0 0] 23 (0, 0))) :
    CallsD Try.prog 45 #[.pointer (some ⟨pr, 0, none⟩), .pointer (some ⟨pa, 0, none⟩), .pointer (some ⟨pn, 0, none⟩), .pointer (some ⟨px, 0, none⟩)]
      (.panicking ({ v := .iface 63 (.agg #[.int .i64 X]), recovered := false } :: older)) w fun en u w' =>
      en = .returned (.tuple #[]) ∧ u = .panicking ({ v := .iface 63 (.agg #[.int .i64 X]), recovered := true } :: older) ∧
        w'.heap[g]? = some (.cells #[v, .int .i64 A, .int .i64 X] 57 (0, 0)) ∧ w'.heap[px]? = some (.cells #[.slice none 0 0] 23 (0, 0)) ∧ Mu (fun k => k = g ∨ k = px) w w' := by
  refine callsD_of_wpS Try.func45 rfl fun c₀ cs hu => ?_
  have cr := blk_cell hr 0
  apply wpS_seq
  refine wpS_region_draw (by kernel_rfl) (L := [[0, 1, 2, 3, 4], [1, 0, 2, 3, 4], [1, 2, 0, 3, 4], [1, 2, 3, 0, 4]]) (by kernel_rfl) ?_
  intro l hl
  simp only [List.mem_cons, List.not_mem_nil, or_false] at hl
  have hg' : w.drew.heap[g]? = some (.cells #[v, a, e] 57 (0, 0)) := hg
  have fin : ∀ (en : Exit) (a' : Act) (w' : World), (en = .normal ∧ a'.defers = [] ∧ w'.heap[g]? = some (.cells #[v, .int .i64 A, .int .i64 X] 57 (0, 0)) ∧ w'.heap[px]? = some (.cells #[.slice none 0 0] 23 (0, 0)) ∧ Mu (fun k => k = g ∨ k = px) w w') →
      bodyPostS Try.prog Try.f45 c₀ cs (fun en u w' => en = .returned (.tuple #[]) ∧ u = .panicking ({ v := .iface 63 (.agg #[.int .i64 X]), recovered := true } :: older) ∧
        w'.heap[g]? = some (.cells #[v, .int .i64 A, .int .i64 X] 57 (0, 0)) ∧ w'.heap[px]? = some (.cells #[.slice none 0 0] 23 (0, 0)) ∧ Mu (fun k => k = g ∨ k = px) w w') en a'
        ({ c₀ with mode := .panicking ({ v := .iface 63 (.agg #[.int .i64 X]), recovered := true } :: older) } :: cs) w' := by
    rintro en a' w' ⟨rfl, hd, h1, h2, h3⟩
    exact ⟨hd, _, rfl, .tuple #[], results_none rfl _ _ _, rfl, rfl, h1, h2, h3⟩
  rcases hl with rfl | rfl | rfl | rfl
  all_goals
    simp [wpOpsS, go_sem, recoverD, hu, Try.ntmps45, cr]
    refine (caught_stop hg').mono ?_
    rintro en w1 ⟨rfl, hg1, hm1⟩
    refine wpS_of_wp ?_
    refine wp_act (a' := { tmps := #[.pointer (some ⟨pr, 0, none⟩), .pointer (some ⟨pa, 0, none⟩), .pointer (some ⟨pn, 0, none⟩), .pointer (some ⟨px, 0, none⟩), .iface 63 (.agg #[.int .i64 X]), .pointer (some ⟨g, 0, none⟩), .pointer (some ⟨g, 0, none⟩), .pointer (some ⟨g, 2, none⟩), .tuple #[], undef, undef, undef, undef, undef, undef, undef, undef, undef, undef], defers := [] }) (by kernel_rfl) ?_
    refine wp_code (c' := dB_rest) (by kernel_rfl) ?_
    exact Code.wp_mono fin (dB_rest_stop hX nx hg1 (hm1.heap (show w.drew.heap[pr]? = _ from hr) nr) (hm1.heap (show w.drew.heap[pa]? = _ from ha) na) (hm1.heap (show w.drew.heap[pn]? = _ from hn) nn) (hm1.heap (show w.drew.heap[px]? = _ from hx) nx) (Mu.trans ((Mu.refl _ _).drew) hm1))
set_option maxHeartbeats 1000000 in
theorem dB_rest_idle {w1 : World} {g pr : Nat} {v a p1 p2 p3 rv : Value}
    (hg1 : w1.heap[g]? = some (.cells #[v, a, .int .i64 0] 57 (0, 0))) (hr1 : w1.heap[pr]? = some (.cells #[.pointer (some ⟨g, 0, none⟩)] 38 (0, 0))) :
    Code.wp Try.prog dB_rest (fun e a' w' => e = .normal ∧ a'.defers = [] ∧ w' = w1)
      { tmps := #[.pointer (some ⟨pr, 0, none⟩), p1, p2, p3, rv, .pointer (some ⟨g, 0, none⟩), .pointer (some ⟨g, 0, none⟩), .pointer (some ⟨g, 2, none⟩), .tuple #[], undef, undef, undef, undef, undef, undef, undef, undef, undef, undef], defers := [] } w1 := by
  have cr1 := blk_cell hr1 0
  have cg1 := blk_cell hg1 2
  clear hg1 hr1
  unfold dB_rest Try.f45
  go_wp2
set_option maxHeartbeats 1000000 in
theorem dB_idle {w : World} {g pr : Nat} {v a p1 p2 p3 : Value}
    (hg : w.heap[g]? = some (.cells #[v, a, .int .i64 0] 57 (0, 0))) (hr : w.heap[pr]? = some (.cells #[.pointer (some ⟨g, 0, none⟩)] 38 (0, 0))) :
    CallsD Try.prog 45 #[.pointer (some ⟨pr, 0, none⟩), p1, p2, p3] .returning w fun en u w' =>
      en = .returned (.tuple #[]) ∧ u = .returning ∧ w' = w.drew := by
  refine callsD_of_wpS Try.func45 rfl fun c₀ cs hu => ?_
  have cr := blk_cell hr 0
  apply wpS_seq
  refine wpS_region_draw (by kernel_rfl) (L := [[0, 1, 2, 3, 4], [1, 0, 2, 3, 4], [1, 2, 0, 3, 4], [1, 2, 3, 0, 4]]) (by kernel_rfl) ?_
  intro l hl
  simp only [List.mem_cons, List.not_mem_nil, or_false] at hl
  have fin : ∀ (en : Exit) (a' : Act) (w' : World), (en = .normal ∧ a'.defers = [] ∧ w' = w.drew) →
      bodyPostS Try.prog Try.f45 c₀ cs (fun en u w' => en = .returned (.tuple #[]) ∧ u = .returning ∧ w' = w.drew) en a' (c₀ :: cs) w' := by
    rintro en a' w' ⟨rfl, hd, rfl⟩
    exact ⟨hd, .returning, by rw [← hu], .tuple #[], results_none rfl _ _ _, rfl, rfl, rfl⟩
  rcases hl with rfl | rfl | rfl | rfl
  all_goals
    simp [wpOpsS, go_sem, recoverD, hu, Try.ntmps45, cr]
    refine caught_nil.mono ?_
    rintro en w1 ⟨rfl, rfl⟩
    refine wpS_of_wp ?_
    refine wp_act (a' := { tmps := #[.pointer (some ⟨pr, 0, none⟩), p1, p2, p3, .nilIface, .pointer (some ⟨g, 0, none⟩), .pointer (some ⟨g, 0, none⟩), .pointer (some ⟨g, 2, none⟩), .tuple #[], undef, undef, undef, undef, undef, undef, undef, undef, undef, undef], defers := [] }) (by kernel_rfl) ?_
    refine wp_code (c' := dB_rest) (by kernel_rfl) ?_
    exact Code.wp_mono fin (dB_rest_idle hg hr)
noncomputable def dS_rest : Code := match Try.f46.body with | some (.seq _ c) => c | _ => .skip
set_option maxHeartbeats 1000000 in
theorem dS_rest_stop {w w1 : World} {g pr pa pn px : Nat} {v a rv : Value} {X A : Int} (hX : (X != 0) = true) (nx : px ≠ g)
    (hg1 : w1.heap[g]? = some (.cells #[v, a, .int .i64 X] 57 (0, 0))) (hr1 : w1.heap[pr]? = some (.cells #[.pointer (some ⟨g, 0, none⟩)] 38 (0, 0)))
    (ha1 : w1.heap[pa]? = some (.cells #[.int .i64 A] 3 (0, 0))) (hn1 : w1.heap[pn]? = some (.cells #[.string ⟨#[]⟩] 9 (0, 0))) (hx1 : w1.heap[px]? = some (.cells #[.string ⟨#[]⟩] 9 (0, 0)))
    (hm1 : Mu (· = g) w w1) :
    Code.wp Try.prog dS_rest (fun e a' w' => e = .normal ∧ a'.defers = [] ∧ w'.heap[g]? = some (.cells #[v, .int .i64 A, .int .i64 X] 57 (0, 0)) ∧ w'.heap[px]? = some (.cells #[.string ⟨#[]⟩] 9 (0, 0)) ∧ Mu (fun k => k = g ∨ k = px) w w')
      { tmps := #[.pointer (some ⟨pr, 0, none⟩), .pointer (some ⟨pa, 0, none⟩), .pointer (some ⟨pn, 0, none⟩), .pointer (some ⟨px, 0, none⟩), rv, .pointer (some ⟨g, 0, none⟩), .pointer (some ⟨g, 0, none⟩), .pointer (some ⟨g, 2, none⟩), .tuple #[], undef, undef, undef, undef, undef, undef, undef, undef, undef, undef], defers := [] } w1 := by
  have cr1 := blk_cell hr1 0
  have ca1 := blk_cell ha1 0
  have cn1 := blk_cell hn1 0
  have cg1 := blk_cell hg1 2
  have cg2 := blk_cell hg1 1
  have cx1 := blk_cell hx1 0
  have fg1 := blk_frozen hg1 1
  have fx1 := blk_frozen hx1 0
  have Hg1 := Aside0.mk hg1
  have Hx1 := Aside0.mk hx1
  have Hm1 := Aside0.mk hm1
  clear hg1 hm1 hr1 ha1 hn1 hx1
  unfold dS_rest Try.f46
  go_wp2
  refine ⟨?_, ?_, ?_⟩
  · rw [Below.heap_setCell _ _ _ _ (by exact fun e => nx e.symm)]
    exact set_at Hg1.out
  · exact set_0 ((Below.heap_setCell _ _ _ _ (by exact nx)).trans Hx1.out)
  · exact (((Mu.mono (Hm1.out) (fun k _ h => .inl h) : Mu (fun k => k = g ∨ k = px) w w1)).setCell (p := ⟨g, 1, none⟩) (fun _ => .inl rfl) _).setCell (p := ⟨px, 0, none⟩) (fun _ => .inr rfl) _
set_option maxHeartbeats 1000000 in
theorem dS_stop {w : World} {g pr pa pn px : Nat} {v a e : Value} {X A : Int} {older : List PanicEntry} (hX : (X != 0) = true) (nr : pr ≠ g) (na : pa ≠ g) (nn : pn ≠ g) (nx : px ≠ g)
    (hg : w.heap[g]? = some (.cells #[v, a, e] 57 (0, 0))) (hr : w.heap[pr]? = some (.cells #[.pointer (some ⟨g, 0, none⟩)] 38 (0, 0)))
    (ha : w.heap[pa]? = some (.cells #[.int .i64 A] 3 (0, 0))) (hn : w.heap[pn]? = some (.cells #[.string ⟨#[]⟩] 9 (0, 0))) (hx : w.heap[px]? = some (.cells #[.string ⟨#[]⟩] 9 (0, 0))) :
    CallsD Try.prog 46 #[.pointer (some ⟨pr, 0, none⟩), .pointer (some ⟨pa, 0, none⟩), .pointer (some ⟨pn, 0, none⟩), .pointer (some ⟨px, 0, none⟩)]
      (.panicking ({ v := .iface 63 (.agg #[.int .i64 X]), recovered := false } :: older)) w fun en u w' =>
      en = .returned (.tuple #[]) ∧ u = .panicking ({ v := .iface 63 (.agg #[.int .i64 X]), recovered := true } :: older) ∧
        w'.heap[g]? = some (.cells #[v, .int .i64 A, .int .i64 X] 57 (0, 0)) ∧ w'.heap[px]? = some (.cells #[.string ⟨#[]⟩] 9 (0, 0)) ∧ Mu (fun k => k = g ∨ k = px) w w' := by
  refine callsD_of_wpS Try.func46 rfl fun c₀ cs hu => ?_
  have cr := blk_cell hr 0
  apply wpS_seq
  refine wpS_region_draw (by kernel_rfl) (L := [[0, 1, 2, 3, 4], [1, 0, 2, 3, 4], [1, 2, 0, 3, 4], [1, 2, 3, 0, 4]]) (by kernel_rfl) ?_
  intro l hl
  simp only [List.mem_cons, List.not_mem_nil, or_false] at hl
  have hg' : w.drew.heap[g]? = some (.cells #[v, a, e] 57 (0, 0)) := hg
  have fin : ∀ (en : Exit) (a' : Act) (w' : World), (en = .normal ∧ a'.defers = [] ∧ w'.heap[g]? = some (.cells #[v, .int .i64 A, .int .i64 X] 57 (0, 0)) ∧ w'.heap[px]? = some (.cells #[.string ⟨#[]⟩] 9 (0, 0)) ∧ Mu (fun k => k = g ∨ k = px) w w') →
      bodyPostS Try.prog Try.f46 c₀ cs (fun en u w' => en = .returned (.tuple #[]) ∧ u = .panicking ({ v := .iface 63 (.agg #[.int .i64 X]), recovered := true } :: older) ∧
        w'.heap[g]? = some (.cells #[v, .int .i64 A, .int .i64 X] 57 (0, 0)) ∧ w'.heap[px]? = some (.cells #[.string ⟨#[]⟩] 9 (0, 0)) ∧ Mu (fun k => k = g ∨ k = px) w w') en a'
        ({ c₀ with mode := .panicking ({ v := .iface 63 (.agg #[.int .i64 X]), recovered := true } :: older) } :: cs) w' := by
    rintro en a' w' ⟨rfl, hd, h1, h2, h3⟩
    exact ⟨hd, _, rfl, .tuple #[], results_none rfl _ _ _, rfl, rfl, h1, h2, h3⟩
  rcases hl with rfl | rfl | rfl | rfl
  all_goals
    simp [wpOpsS, go_sem, recoverD, hu, Try.ntmps46, cr]
    refine (caught_stop hg').mono ?_
    rintro en w1 ⟨rfl, hg1, hm1⟩
    refine wpS_of_wp ?_
    refine wp_act (a' := { tmps := #[.pointer (some ⟨pr, 0, none⟩), .pointer (some ⟨pa, 0, none⟩), .pointer (some ⟨pn, 0, none⟩), .pointer (some ⟨px, 0, none⟩), .iface 63 (.agg #[.int .i64 X]), .pointer (some ⟨g, 0, none⟩), .pointer (some ⟨g, 0, none⟩), .pointer (some ⟨g, 2, none⟩), .tuple #[], undef, undef, undef, undef, undef, undef, undef, undef, undef, undef], defers := [] }) (by kernel_rfl) ?_
    refine wp_code (c' := dS_rest) (by kernel_rfl) ?_
    exact Code.wp_mono fin (dS_rest_stop hX nx hg1 (hm1.heap (show w.drew.heap[pr]? = _ from hr) nr) (hm1.heap (show w.drew.heap[pa]? = _ from ha) na) (hm1.heap (show w.drew.heap[pn]? = _ from hn) nn) (hm1.heap (show w.drew.heap[px]? = _ from hx) nx) (Mu.trans ((Mu.refl _ _).drew) hm1))
set_option maxHeartbeats 1000000 in
theorem dS_rest_idle {w1 : World} {g pr : Nat} {v a p1 p2 p3 rv : Value}
    (hg1 : w1.heap[g]? = some (.cells #[v, a, .int .i64 0] 57 (0, 0))) (hr1 : w1.heap[pr]? = some (.cells #[.pointer (some ⟨g, 0, none⟩)] 38 (0, 0))) :
    Code.wp Try.prog dS_rest (fun e a' w' => e = .normal ∧ a'.defers = [] ∧ w' = w1)
      { tmps := #[.pointer (some ⟨pr, 0, none⟩), p1, p2, p3, rv, .pointer (some ⟨g, 0, none⟩), .pointer (some ⟨g, 0, none⟩), .pointer (some ⟨g, 2, none⟩), .tuple #[], undef, undef, undef, undef, undef, undef, undef, undef, undef, undef], defers := [] } w1 := by
  have cr1 := blk_cell hr1 0
  have cg1 := blk_cell hg1 2
  clear hg1 hr1
  unfold dS_rest Try.f46
  go_wp2
set_option maxHeartbeats 1000000 in
theorem dS_idle {w : World} {g pr : Nat} {v a p1 p2 p3 : Value}
    (hg : w.heap[g]? = some (.cells #[v, a, .int .i64 0] 57 (0, 0))) (hr : w.heap[pr]? = some (.cells #[.pointer (some ⟨g, 0, none⟩)] 38 (0, 0))) :
    CallsD Try.prog 46 #[.pointer (some ⟨pr, 0, none⟩), p1, p2, p3] .returning w fun en u w' =>
      en = .returned (.tuple #[]) ∧ u = .returning ∧ w' = w.drew := by
  refine callsD_of_wpS Try.func46 rfl fun c₀ cs hu => ?_
  have cr := blk_cell hr 0
  apply wpS_seq
  refine wpS_region_draw (by kernel_rfl) (L := [[0, 1, 2, 3, 4], [1, 0, 2, 3, 4], [1, 2, 0, 3, 4], [1, 2, 3, 0, 4]]) (by kernel_rfl) ?_
  intro l hl
  simp only [List.mem_cons, List.not_mem_nil, or_false] at hl
  have fin : ∀ (en : Exit) (a' : Act) (w' : World), (en = .normal ∧ a'.defers = [] ∧ w' = w.drew) →
      bodyPostS Try.prog Try.f46 c₀ cs (fun en u w' => en = .returned (.tuple #[]) ∧ u = .returning ∧ w' = w.drew) en a' (c₀ :: cs) w' := by
    rintro en a' w' ⟨rfl, hd, rfl⟩
    exact ⟨hd, .returning, by rw [← hu], .tuple #[], results_none rfl _ _ _, rfl, rfl, rfl⟩
  rcases hl with rfl | rfl | rfl | rfl
  all_goals
    simp [wpOpsS, go_sem, recoverD, hu, Try.ntmps46, cr]
    refine caught_nil.mono ?_
    rintro en w1 ⟨rfl, rfl⟩
    refine wpS_of_wp ?_
    refine wp_act (a' := { tmps := #[.pointer (some ⟨pr, 0, none⟩), p1, p2, p3, .nilIface, .pointer (some ⟨g, 0, none⟩), .pointer (some ⟨g, 0, none⟩), .pointer (some ⟨g, 2, none⟩), .tuple #[], undef, undef, undef, undef, undef, undef, undef, undef, undef, undef], defers := [] }) (by kernel_rfl) ?_
    refine wp_code (c' := dS_rest) (by kernel_rfl) ?_
    exact Code.wp_mono fin (dS_rest_idle hg hr)
end Go.Proofs.Ytabljieejnhefaa.Hand
namespace Go.Proofs.Ytabljieejnhefaa.Hand
open Go.RowKit Go.Proofs.YtabljieejnhefaaW.PrintWords Go.Proofs.YtabljieejnhefaaW.PrintLast
def RdPost (Res : Nat → World → Value → Prop) (b : Nat) (F : Nat → Prop) (g : Nat) (l : List Int) (e : Int) (w : World) : Except Int Int → Ending → World → Prop
  | .ok at', en, w' => (∃ v, en = .returned v ∧ Res b w' v) ∧ IsRd w' F g l at' e ∧ 0 ≤ at' ∧ at' ≤ l.length ∧ Mu (· = g) w w'
  | .error x, en, w' => en = .panicked (stopV x) ∧ (∃ at', IsRd w' F g l at' e) ∧ Mu (· = g) w w'
def TrPost (Res : Nat → World → Value → Prop) (b : Nat) (F : Nat → Prop) (g : Nat) (l : List Int) (at_ e : Int) (zero : Value) (w : World) (R : Except Int Int) (en : Ending) (w' : World) : Prop :=
  Mu (· = g) w w' ∧ ((e ≠ 0 ∧ en = .returned zero ∧ IsRd w' F g l at_ e) ∨ (e = 0 ∧ ∃ at', R = .ok at' ∧ (∃ v, en = .returned v ∧ Res b w' v) ∧ IsRd w' F g l at' 0 ∧ 0 ≤ at' ∧ at' ≤ l.length) ∨
    (e = 0 ∧ ∃ x, R = .error x ∧ en = .returned zero ∧ IsRd w' F g l at_ x))
structure Stays (Res : Nat → World → Value → Prop) : Prop where
  mu : ∀ {b w1 w2 v}, Res b w1 v → Mu (fun k => k < b) w1 w2 → Res b w2 v
  lower : ∀ {b b' w v}, Res b w v → b' ≤ b → Res b' w v
theorem Mu.trans' {S T : Nat → Prop} {a b c : World} (h : Mu S a b) (k : Mu T b c) (hT : ∀ i, i < a.heap.size → T i → S i) : Mu S a c :=
  ⟨k.os.trans h.os, k.tape.trans h.tape, k.output.trans h.output, Nat.le_trans h.size k.size, fun i hi hs => (k.block i (Nat.lt_of_lt_of_le hi h.size) (fun ht => hs (hT i hi ht))).trans (h.block i hi hs)⟩
theorem alloc_new (w : World) (o : Obj) : (w.alloc o).heap[w.heap.size]? = some o := by
  show (w.heap.push o)[w.heap.size]? = some o
  simp
theorem alloc_old {w : World} {o O : Obj} {k : Nat} (h : w.heap[k]? = some o) : (w.alloc O).heap[k]? = some o := alloc_blk h
theorem four_new (w : World) (o0 o1 o2 o3 : Obj) : ∃ W, (((w.alloc o0).alloc o1).alloc o2).alloc o3 = W ∧ W.heap[w.heap.size]? = some o0 ∧ W.heap[w.heap.size + 1]? = some o1 ∧ W.heap[w.heap.size + 1 + 1]? = some o2 ∧ W.heap[w.heap.size + 1 + 1 + 1]? = some o3 ∧
    W.heap.size = w.heap.size + 4 ∧ Below w.heap.size w W := by
  have s1 : (w.alloc o0).heap.size = w.heap.size + 1 := by simp
  have s2 : ((w.alloc o0).alloc o1).heap.size = w.heap.size + 1 + 1 := by simp
  have s3 : (((w.alloc o0).alloc o1).alloc o2).heap.size = w.heap.size + 1 + 1 + 1 := by simp
  refine ⟨_, rfl, ?_, ?_, ?_, ?_, by simp, ?_⟩
  · exact alloc_old (alloc_old (alloc_old (alloc_new _ _)))
  · have := alloc_new (w.alloc o0) o1
    rw [s1] at this
    exact alloc_old (alloc_old this)
  · have := alloc_new ((w.alloc o0).alloc o1) o2
    rw [s2] at this
    exact alloc_old this
  · have := alloc_new (((w.alloc o0).alloc o1).alloc o2) o3
    rw [s3] at this
    exact this
  · exact below_alloc (below_alloc (below_alloc (below_alloc (Below.refl _ _) _) _) _) _
theorem IsRd.blk {w : World} {F : Nat → Prop} {g : Nat} {l : List Int} {at_ e : Int} (h : IsRd w F g l at_ e) : ∃ v, w.heap[g]? = some (.cells #[v, .int .i64 at_, .int .i64 e] 57 (0, 0)) := by
  obtain ⟨A, c, i1, i2, i3, i4, i5⟩ := h
  exact ⟨_, i2⟩
set_option maxHeartbeats 2000000 in
theorem triesdU {Res : Nat → World → Value → Prop} (hS : Stays Res) (hsh : ∀ b w v, Res b w v → ∃ n, v = .int .u64 n) {f : FuncId} {first cap args : Array Value} (hargs : first ++ cap = args)
    (hcf : ∀ w : World, (callFunc f args).run Try.prog w = .ok (.enter f args) w)
    {w : World} {F : Nat → Prop} {g : Nat} {l : List Int} {at_ e : Int} (R : Except Int Int) (hX : ∀ x, R = .error x → (x != 0) = true) (hI : IsRd w F g l at_ e) (hF : ∀ k, F k → k < w.heap.size)
    (hread : e = 0 → ∀ w1, Below w.heap.size w w1 → Calls Try.prog f args w1 (RdPost Res w1.heap.size F g l 0 w1 R)) :
    Calls Try.prog 32 #[.pointer (some ⟨g, 0, none⟩), .func (.func f) first cap] w (TrPost Res w.heap.size F g l at_ e (.int .u64 0) w R) := by
  have HI := Aside0.mk hI
  have HX := Aside0.mk hX
  have HF := Aside0.mk hF
  have HR := Aside0.mk hread
  have HS := Aside0.mk hS
  have Hsh := Aside0.mk hsh
  obtain ⟨A, c, i1, i2, i3, i4, i5⟩ := hI
  have I2 := Aside0.mk i2
  have c1 := blk_cell i2 1
  have c2 := blk_cell i2 2
  have hglt := heap_lt i2
  have hsz0 : w.heap.size ≠ g := by omega
  have hsz1 : w.heap.size + 1 ≠ g := by omega
  have hsz2 : w.heap.size + 1 + 1 ≠ g := by omega
  have hsz3 : w.heap.size + 1 + 1 + 1 ≠ g := by omega
  clear hX hF hread hS hsh i1 i2 i3 i4 i5
  have hmf : ∀ (fn : Fn) (first cap : Array Value) (w : World), (Instr.makeFunc fn first cap).run Try.prog w = .ok (.func fn first cap) w := fun _ _ _ _ => rfl
  by_cases he : e = 0
  · subst he
    obtain ⟨W, hW, b0, b1, b2, b3, hWs, hWb⟩ := four_new w (.cells #[.pointer (some ⟨g, 0, none⟩)] 38) (.cells #[.int .u64 0] 22) (.cells #[.int .i64 at_] 3) (.cells #[.int .u64 0] 22)
    have HW := Aside0.mk hW
    have B0 := Aside0.mk b0
    have B1 := Aside0.mk b1
    have B2 := Aside0.mk b2
    have B3 := Aside0.mk b3
    have HWs := Aside0.mk hWs
    have HWb := Aside0.mk hWb
    clear hW b0 b1 b2 b3 hWs hWb
    go_enter_defers Try.func32, Try.ntmps32
    go_wp2_with fail
    rw [HW.out]
    refine (HR.out trivial W HWb.out).mono ?_
    have hIW : IsRd W F g l at_ 0 := HI.out.mu (Mu.of_below HWb.out (fun _ => False)) (fun _ _ h => h)
    cases R with
    | ok p =>
      rintro en w2 ⟨⟨v, rfl, hres⟩, hI2, h0, h1, hm⟩
      obtain ⟨n, rfl⟩ := Hsh.out _ _ _ hres
      have b1 := hm.heap B1.out hsz1
      have b0 := hm.heap B0.out hsz0
      have c3 := blk_cell b1 0
      have f3 := blk_frozen b1 0
      have HM := Aside0.mk hm
      have HI2 := Aside0.mk hI2
      have HRes := Aside0.mk hres
      have B1' := Aside0.mk b1
      have B0' := Aside0.mk b0
      clear hm hI2 hres b1 b0
      go_wp2
      obtain ⟨v2, hb2⟩ := HI2.out.blk
      refine leaves_cons (f := 42) (args := #[.pointer (some ⟨w.heap.size, 0, none⟩), .pointer (some ⟨w.heap.size + 1 + 1, 0, none⟩), .pointer (some ⟨w.heap.size + 1 + 1 + 1, 0, none⟩), .pointer (some ⟨w.heap.size + 1, 0, none⟩)]) (by simp) (by simp [go_sem]) ?_
      refine (dU_idle (g := g) (v := v2) (a := .int .i64 p) ?_ ?_).mono ?_
      · exact (Below.heap_setCell _ _ _ _ (by exact fun e => hsz1 e.symm)).trans hb2
      · exact (Below.heap_setCell _ _ _ _ (by show w.heap.size ≠ w.heap.size + 1; omega)).trans B0'.out
      rintro en u w3 ⟨rfl, rfl, rfl⟩
      have hx := set_0 (x := .int .u64 n) B1'.out
      have cx := blk_cell hx 0
      have hm3 : ∀ S : Nat → Prop, S (w.heap.size + 1) → Mu S w2 ((w2.setCell ⟨w.heap.size + 1, 0, none⟩ (.int .u64 n)).drew) := fun S hS => ((Mu.refl S w2).setCell (p := ⟨w.heap.size + 1, 0, none⟩) (fun _ => hS) _).drew
      refine ⟨.int .u64 n, ?_, ?_, .inr (.inl ⟨rfl, p, rfl, ⟨_, rfl, ?_⟩, ?_, h0, h1⟩)⟩
      · simp [results, Try.results32, go_sem, cx]
      · exact (((Mu.of_below HWb.out (· = g)).trans HM.out).setCell (p := ⟨w.heap.size + 1, 0, none⟩) (fun h => absurd h (by show ¬ w.heap.size + 1 < w.heap.size; omega)) _).drew
      · exact HS.out.lower (HS.out.mu HRes.out (hm3 _ (by rw [HWs.out]; omega))) (by rw [HWs.out]; omega)
      · exact HI2.out.mu (hm3 (· = w.heap.size + 1) rfl) (fun k hk e => by have := HF.out k hk; omega)
    | error x =>
      rintro en w2 ⟨rfl, ⟨at', hI2⟩, hm⟩
      obtain ⟨v2, hb2⟩ := hI2.blk
      have hX := HX.out x rfl
      have hd := dU_stop (older := []) hX hsz0 hsz2 hsz3 hsz1 hb2 (hm.heap B0.out hsz0) (hm.heap B2.out hsz2) (hm.heap B3.out hsz3) (hm.heap B1.out hsz1)
      refine leaves_cons (f := 42) (args := #[.pointer (some ⟨w.heap.size, 0, none⟩), .pointer (some ⟨w.heap.size + 1 + 1, 0, none⟩), .pointer (some ⟨w.heap.size + 1 + 1 + 1, 0, none⟩), .pointer (some ⟨w.heap.size + 1, 0, none⟩)]) (by simp) (by simp [go_sem]) ?_
      refine hd.mono ?_
      rintro en u w3 ⟨rfl, rfl, g1, x1, m1⟩
      have cx := blk_cell x1 0
      refine ⟨.int .u64 0, ?_, ?_, .inr (.inr ⟨rfl, x, rfl, rfl, ?_⟩)⟩
      · simp [results, Try.results32, go_sem, cx]
      · refine ((Mu.of_below HWb.out (· = g)).trans hm).trans' m1 ?_
        rintro k hk (h | h)
        · exact h
        · omega
      · obtain ⟨A', c', j1, j2, j3, j4, j5⟩ := hI2
        rw [hb2] at j2
        obtain rfl : v2 = .slice A' l.length c' := by
          injection j2 with j2
          injection j2 with j2
          simpa using j2
        exact ⟨A', c', j1, g1, j3, C_mu m1 j4 (fun ad ea hn => by
          rintro (h | h)
          · exact (j5 ad ea hn).2 h
          · have := HF.out _ (j5 ad ea hn).1; omega), j5⟩
  · have he' : (e != 0) = true := by rw [bne_iff_ne]; exact he
    have He := Aside0.mk he
    clear he
    go_enter_defers Try.func32, Try.ntmps32
    go_wp2_with fail
    refine ⟨.int .u64 0, ?_, ?_⟩
    · simp [results, Try.results32, go_sem]
    · have hb : Below w.heap.size w ((w.alloc (Obj.cells #[Value.pointer (some ⟨g, 0, none⟩)] 38)).alloc (Obj.cells #[Value.int .u64 0] 22)) := below_alloc (below_alloc (Below.refl _ _) _) _
      exact ⟨Mu.of_below hb _, .inl ⟨He.out, rfl, HI.out.mu (Mu.of_below hb (fun _ => False)) (fun _ _ h => h)⟩⟩
set_option maxHeartbeats 2000000 in
theorem triesdB {Res : Nat → World → Value → Prop} (hS : Stays Res) (hsh : ∀ b w v, Res b w v → ∃ a n c, v = .slice a n c) {f : FuncId} {first cap args : Array Value} (hargs : first ++ cap = args)
    (hcf : ∀ w : World, (callFunc f args).run Try.prog w = .ok (.enter f args) w)
    {w : World} {F : Nat → Prop} {g : Nat} {l : List Int} {at_ e : Int} (R : Except Int Int) (hX : ∀ x, R = .error x → (x != 0) = true) (hI : IsRd w F g l at_ e) (hF : ∀ k, F k → k < w.heap.size)
    (hread : e = 0 → ∀ w1, Below w.heap.size w w1 → Calls Try.prog f args w1 (RdPost Res w1.heap.size F g l 0 w1 R)) :
    Calls Try.prog 37 #[.pointer (some ⟨g, 0, none⟩), .func (.func f) first cap] w (TrPost Res w.heap.size F g l at_ e (.slice none 0 0) w R) := by
  have HI := Aside0.mk hI
  have HX := Aside0.mk hX
  have HF := Aside0.mk hF
  have HR := Aside0.mk hread
  have HS := Aside0.mk hS
  have Hsh := Aside0.mk hsh
  obtain ⟨A, c, i1, i2, i3, i4, i5⟩ := hI
  have I2 := Aside0.mk i2
  have c1 := blk_cell i2 1
  have c2 := blk_cell i2 2
  have hglt := heap_lt i2
  have hsz0 : w.heap.size ≠ g := by omega
  have hsz1 : w.heap.size + 1 ≠ g := by omega
  have hsz2 : w.heap.size + 1 + 1 ≠ g := by omega
  have hsz3 : w.heap.size + 1 + 1 + 1 ≠ g := by omega
  clear hX hF hread hS hsh i1 i2 i3 i4 i5
  have hmf : ∀ (fn : Fn) (first cap : Array Value) (w : World), (Instr.makeFunc fn first cap).run Try.prog w = .ok (.func fn first cap) w := fun _ _ _ _ => rfl
  by_cases he : e = 0
  · subst he
    obtain ⟨W, hW, b0, b1, b2, b3, hWs, hWb⟩ := four_new w (.cells #[.pointer (some ⟨g, 0, none⟩)] 38) (.cells #[.slice none 0 0] 23) (.cells #[.int .i64 at_] 3) (.cells #[.slice none 0 0] 23)
    have HW := Aside0.mk hW
    have B0 := Aside0.mk b0
    have B1 := Aside0.mk b1
    have B2 := Aside0.mk b2
    have B3 := Aside0.mk b3
    have HWs := Aside0.mk hWs
    have HWb := Aside0.mk hWb
    clear hW b0 b1 b2 b3 hWs hWb
    go_enter_defers Try.func37, Try.ntmps37
    go_wp2_with fail
    rw [HW.out]
    refine (HR.out trivial W HWb.out).mono ?_
    have hIW : IsRd W F g l at_ 0 := HI.out.mu (Mu.of_below HWb.out (fun _ => False)) (fun _ _ h => h)
    cases R with
    | ok p =>
      rintro en w2 ⟨⟨v, rfl, hres⟩, hI2, h0, h1, hm⟩
      obtain ⟨sa, sn, sc, rfl⟩ := Hsh.out _ _ _ hres
      have b1 := hm.heap B1.out hsz1
      have b0 := hm.heap B0.out hsz0
      have c3 := blk_cell b1 0
      have f3 := blk_frozen b1 0
      have HM := Aside0.mk hm
      have HI2 := Aside0.mk hI2
      have HRes := Aside0.mk hres
      have B1' := Aside0.mk b1
      have B0' := Aside0.mk b0
      clear hm hI2 hres b1 b0
      go_wp2
      obtain ⟨v2, hb2⟩ := HI2.out.blk
      refine leaves_cons (f := 45) (args := #[.pointer (some ⟨w.heap.size, 0, none⟩), .pointer (some ⟨w.heap.size + 1 + 1, 0, none⟩), .pointer (some ⟨w.heap.size + 1 + 1 + 1, 0, none⟩), .pointer (some ⟨w.heap.size + 1, 0, none⟩)]) (by simp) (by simp [go_sem]) ?_
      refine (dB_idle (g := g) (v := v2) (a := .int .i64 p) ?_ ?_).mono ?_
      · exact (Below.heap_setCell _ _ _ _ (by exact fun e => hsz1 e.symm)).trans hb2
      · exact (Below.heap_setCell _ _ _ _ (by show w.heap.size ≠ w.heap.size + 1; omega)).trans B0'.out
      rintro en u w3 ⟨rfl, rfl, rfl⟩
      have hx := set_0 (x := .slice sa sn sc) B1'.out
      have cx := blk_cell hx 0
      have hm3 : ∀ S : Nat → Prop, S (w.heap.size + 1) → Mu S w2 ((w2.setCell ⟨w.heap.size + 1, 0, none⟩ (.slice sa sn sc)).drew) := fun S hS => ((Mu.refl S w2).setCell (p := ⟨w.heap.size + 1, 0, none⟩) (fun _ => hS) _).drew
      refine ⟨.slice sa sn sc, ?_, ?_, .inr (.inl ⟨rfl, p, rfl, ⟨_, rfl, ?_⟩, ?_, h0, h1⟩)⟩
      · simp [results, Try.results37, go_sem, cx]
      · exact (((Mu.of_below HWb.out (· = g)).trans HM.out).setCell (p := ⟨w.heap.size + 1, 0, none⟩) (fun h => absurd h (by show ¬ w.heap.size + 1 < w.heap.size; omega)) _).drew
      · exact HS.out.lower (HS.out.mu HRes.out (hm3 _ (by rw [HWs.out]; omega))) (by rw [HWs.out]; omega)
      · exact HI2.out.mu (hm3 (· = w.heap.size + 1) rfl) (fun k hk e => by have := HF.out k hk; omega)
    | error x =>
      rintro en w2 ⟨rfl, ⟨at', hI2⟩, hm⟩
      obtain ⟨v2, hb2⟩ := hI2.blk
      have hX := HX.out x rfl
      have hd := dB_stop (older := []) hX hsz0 hsz2 hsz3 hsz1 hb2 (hm.heap B0.out hsz0) (hm.heap B2.out hsz2) (hm.heap B3.out hsz3) (hm.heap B1.out hsz1)
      refine leaves_cons (f := 45) (args := #[.pointer (some ⟨w.heap.size, 0, none⟩), .pointer (some ⟨w.heap.size + 1 + 1, 0, none⟩), .pointer (some ⟨w.heap.size + 1 + 1 + 1, 0, none⟩), .pointer (some ⟨w.heap.size + 1, 0, none⟩)]) (by simp) (by simp [go_sem]) ?_
      refine hd.mono ?_
      rintro en u w3 ⟨rfl, rfl, g1, x1, m1⟩
      have cx := blk_cell x1 0
      refine ⟨.slice none 0 0, ?_, ?_, .inr (.inr ⟨rfl, x, rfl, rfl, ?_⟩)⟩
      · simp [results, Try.results37, go_sem, cx]
      · refine ((Mu.of_below HWb.out (· = g)).trans hm).trans' m1 ?_
        rintro k hk (h | h)
        · exact h
        · omega
      · obtain ⟨A', c', j1, j2, j3, j4, j5⟩ := hI2
        rw [hb2] at j2
        obtain rfl : v2 = .slice A' l.length c' := by
          injection j2 with j2
          injection j2 with j2
          simpa using j2
        exact ⟨A', c', j1, g1, j3, C_mu m1 j4 (fun ad ea hn => by
          rintro (h | h)
          · exact (j5 ad ea hn).2 h
          · have := HF.out _ (j5 ad ea hn).1; omega), j5⟩
  · have he' : (e != 0) = true := by rw [bne_iff_ne]; exact he
    have He := Aside0.mk he
    clear he
    go_enter_defers Try.func37, Try.ntmps37
    go_wp2_with fail
    refine ⟨.slice none 0 0, ?_, ?_⟩
    · simp [results, Try.results37, go_sem]
    · have hb : Below w.heap.size w ((w.alloc (Obj.cells #[Value.pointer (some ⟨g, 0, none⟩)] 38)).alloc (Obj.cells #[Value.slice none 0 0] 23)) := below_alloc (below_alloc (Below.refl _ _) _) _
      exact ⟨Mu.of_below hb _, .inl ⟨He.out, rfl, HI.out.mu (Mu.of_below hb (fun _ => False)) (fun _ _ h => h)⟩⟩
set_option maxHeartbeats 2000000 in
theorem triesdS {Res : Nat → World → Value → Prop} (hS : Stays Res) (hsh : ∀ b w v, Res b w v → ∃ s, v = .string s) {f : FuncId} {first cap args : Array Value} (hargs : first ++ cap = args)
    (hcf : ∀ w : World, (callFunc f args).run Try.prog w = .ok (.enter f args) w)
    {w : World} {F : Nat → Prop} {g : Nat} {l : List Int} {at_ e : Int} (R : Except Int Int) (hX : ∀ x, R = .error x → (x != 0) = true) (hI : IsRd w F g l at_ e) (hF : ∀ k, F k → k < w.heap.size)
    (hread : e = 0 → ∀ w1, Below w.heap.size w w1 → Calls Try.prog f args w1 (RdPost Res w1.heap.size F g l 0 w1 R)) :
    Calls Try.prog 40 #[.pointer (some ⟨g, 0, none⟩), .func (.func f) first cap] w (TrPost Res w.heap.size F g l at_ e (.string ⟨#[]⟩) w R) := by
  have HI := Aside0.mk hI
  have HX := Aside0.mk hX
  have HF := Aside0.mk hF
  have HR := Aside0.mk hread
  have HS := Aside0.mk hS
  have Hsh := Aside0.mk hsh
  obtain ⟨A, c, i1, i2, i3, i4, i5⟩ := hI
  have I2 := Aside0.mk i2
  have c1 := blk_cell i2 1
  have c2 := blk_cell i2 2
  have hglt := heap_lt i2
  have hsz0 : w.heap.size ≠ g := by omega
  have hsz1 : w.heap.size + 1 ≠ g := by omega
  have hsz2 : w.heap.size + 1 + 1 ≠ g := by omega
  have hsz3 : w.heap.size + 1 + 1 + 1 ≠ g := by omega
  clear hX hF hread hS hsh i1 i2 i3 i4 i5
  have hmf : ∀ (fn : Fn) (first cap : Array Value) (w : World), (Instr.makeFunc fn first cap).run Try.prog w = .ok (.func fn first cap) w := fun _ _ _ _ => rfl
  by_cases he : e = 0
  · subst he
    obtain ⟨W, hW, b0, b1, b2, b3, hWs, hWb⟩ := four_new w (.cells #[.pointer (some ⟨g, 0, none⟩)] 38) (.cells #[.string ⟨#[]⟩] 9) (.cells #[.int .i64 at_] 3) (.cells #[.string ⟨#[]⟩] 9)
    have HW := Aside0.mk hW
    have B0 := Aside0.mk b0
    have B1 := Aside0.mk b1
    have B2 := Aside0.mk b2
    have B3 := Aside0.mk b3
    have HWs := Aside0.mk hWs
    have HWb := Aside0.mk hWb
    clear hW b0 b1 b2 b3 hWs hWb
    go_enter_defers Try.func40, Try.ntmps40
    go_wp2_with fail
    rw [HW.out]
    refine (HR.out trivial W HWb.out).mono ?_
    have hIW : IsRd W F g l at_ 0 := HI.out.mu (Mu.of_below HWb.out (fun _ => False)) (fun _ _ h => h)
    cases R with
    | ok p =>
      rintro en w2 ⟨⟨v, rfl, hres⟩, hI2, h0, h1, hm⟩
      obtain ⟨sv, rfl⟩ := Hsh.out _ _ _ hres
      have b1 := hm.heap B1.out hsz1
      have b0 := hm.heap B0.out hsz0
      have c3 := blk_cell b1 0
      have f3 := blk_frozen b1 0
      have HM := Aside0.mk hm
      have HI2 := Aside0.mk hI2
      have HRes := Aside0.mk hres
      have B1' := Aside0.mk b1
      have B0' := Aside0.mk b0
      clear hm hI2 hres b1 b0
      go_wp2
      obtain ⟨v2, hb2⟩ := HI2.out.blk
      refine leaves_cons (f := 46) (args := #[.pointer (some ⟨w.heap.size, 0, none⟩), .pointer (some ⟨w.heap.size + 1 + 1, 0, none⟩), .pointer (some ⟨w.heap.size + 1 + 1 + 1, 0, none⟩), .pointer (some ⟨w.heap.size + 1, 0, none⟩)]) (by simp) (by simp [go_sem]) ?_
      refine (dS_idle (g := g) (v := v2) (a := .int .i64 p) ?_ ?_).mono ?_
      · exact (Below.heap_setCell _ _ _ _ (by exact fun e => hsz1 e.symm)).trans hb2
      · exact (Below.heap_setCell _ _ _ _ (by show w.heap.size ≠ w.heap.size + 1; omega)).trans B0'.out
      rintro en u w3 ⟨rfl, rfl, rfl⟩
      have hx := set_0 (x := .string sv) B1'.out
      have cx := blk_cell hx 0
      have hm3 : ∀ S : Nat → Prop, S (w.heap.size + 1) → Mu S w2 ((w2.setCell ⟨w.heap.size + 1, 0, none⟩ (.string sv)).drew) := fun S hS => ((Mu.refl S w2).setCell (p := ⟨w.heap.size + 1, 0, none⟩) (fun _ => hS) _).drew
      refine ⟨.string sv, ?_, ?_, .inr (.inl ⟨rfl, p, rfl, ⟨_, rfl, ?_⟩, ?_, h0, h1⟩)⟩
      · simp [results, Try.results40, go_sem, cx]
      · exact (((Mu.of_below HWb.out (· = g)).trans HM.out).setCell (p := ⟨w.heap.size + 1, 0, none⟩) (fun h => absurd h (by show ¬ w.heap.size + 1 < w.heap.size; omega)) _).drew
      · exact HS.out.lower (HS.out.mu HRes.out (hm3 _ (by rw [HWs.out]; omega))) (by rw [HWs.out]; omega)
      · exact HI2.out.mu (hm3 (· = w.heap.size + 1) rfl) (fun k hk e => by have := HF.out k hk; omega)
    | error x =>
      rintro en w2 ⟨rfl, ⟨at', hI2⟩, hm⟩
      obtain ⟨v2, hb2⟩ := hI2.blk
      have hX := HX.out x rfl
      have hd := dS_stop (older := []) hX hsz0 hsz2 hsz3 hsz1 hb2 (hm.heap B0.out hsz0) (hm.heap B2.out hsz2) (hm.heap B3.out hsz3) (hm.heap B1.out hsz1)
      refine leaves_cons (f := 46) (args := #[.pointer (some ⟨w.heap.size, 0, none⟩), .pointer (some ⟨w.heap.size + 1 + 1, 0, none⟩), .pointer (some ⟨w.heap.size + 1 + 1 + 1, 0, none⟩), .pointer (some ⟨w.heap.size + 1, 0, none⟩)]) (by simp) (by simp [go_sem]) ?_
      refine hd.mono ?_
      rintro en u w3 ⟨rfl, rfl, g1, x1, m1⟩
      have cx := blk_cell x1 0
      refine ⟨.string ⟨#[]⟩, ?_, ?_, .inr (.inr ⟨rfl, x, rfl, rfl, ?_⟩)⟩
      · simp [results, Try.results40, go_sem, cx]
      · refine ((Mu.of_below HWb.out (· = g)).trans hm).trans' m1 ?_
        rintro k hk (h | h)
        · exact h
        · omega
      · obtain ⟨A', c', j1, j2, j3, j4, j5⟩ := hI2
        rw [hb2] at j2
        obtain rfl : v2 = .slice A' l.length c' := by
          injection j2 with j2
          injection j2 with j2
          simpa using j2
        exact ⟨A', c', j1, g1, j3, C_mu m1 j4 (fun ad ea hn => by
          rintro (h | h)
          · exact (j5 ad ea hn).2 h
          · have := HF.out _ (j5 ad ea hn).1; omega), j5⟩
  · have he' : (e != 0) = true := by rw [bne_iff_ne]; exact he
    have He := Aside0.mk he
    clear he
    go_enter_defers Try.func40, Try.ntmps40
    go_wp2_with fail
    refine ⟨.string ⟨#[]⟩, ?_, ?_⟩
    · simp [results, Try.results40, go_sem]
    · have hb : Below w.heap.size w ((w.alloc (Obj.cells #[Value.pointer (some ⟨g, 0, none⟩)] 38)).alloc (Obj.cells #[Value.string ⟨#[]⟩] 9)) := below_alloc (below_alloc (Below.refl _ _) _) _
      exact ⟨Mu.of_below hb _, .inl ⟨He.out, rfl, HI.out.mu (Mu.of_below hb (fun _ => False)) (fun _ _ h => h)⟩⟩
end Go.Proofs.Ytabljieejnhefaa.Hand
namespace Go.Proofs.Ytabljieejnhefaa.Hand
open Go.RowKit Go.Proofs.YtabljieejnhefaaW.PrintWords Go.Proofs.YtabljieejnhefaaW.PrintLast
theorem info5 : (Try.prog.info? 5).map (fun i => (i.zero, i.size, i.bytes)) = some (some (.int .u8 0), 1, 1) := by kernel_rfl
def upL (l : List Int) (at_ most : Int) : Except Int (Int × Int) :=
  match numL l 10 0 0 at_ with
  | .ok (n, p) => if n > most then .error 1 else .ok (n, p)
  | .error x => .error x
set_option maxHeartbeats 1000000 in
theorem upTo_any {w : World} {F : Nat → Prop} {g : Nat} {l : List Int} {at_ e most : Int} (hI : IsRd w F g l at_ e) (h0 : 0 ≤ at_) (h1 : at_ ≤ l.length) :
    Calls Try.prog 36 #[.pointer (some ⟨g, 0, none⟩), .int .u64 most] w (NumPost F g l e w (Value.int .u64) (upL l at_ most)) := by
  obtain ⟨R, hR⟩ : ∃ R, numL l 10 0 0 at_ = R := ⟨_, rfl⟩
  obtain ⟨U, hU⟩ : ∃ U, upL l at_ most = U := ⟨_, rfl⟩
  rw [hU]
  have HU := Aside0.mk hU
  have hn := num_as hR hI h0 h1
  have HN := Aside0.mk hn
  clear hn hU
  go_enter Try.func36, Try.ntmps36
  go_wp2_with fail
  refine HN.out.mono ?_
  have HR := Aside0.mk hR
  clear hR HN
  cases R with
  | error x =>
    rintro en w1 ⟨rfl, hI1, hm1⟩
    have : U = .error x := by rw [← HU.out]; unfold upL; rw [HR.out]
    subst this
    exact ⟨rfl, rfl, hI1, hm1⟩
  | ok np =>
    obtain ⟨n, p⟩ := np
    rintro en w1 ⟨rfl, hI1, hp1, hp0, hm1⟩
    have HP := Aside0.mk (And.intro hI1 (And.intro hp1 (And.intro hp0 hm1)))
    have hI1' := Aside0.mk hI1
    clear hI1 hm1 hI
    by_cases hgt : most < n
    · have hu : U = .error 1 := by rw [← HU.out]; unfold upL; rw [HR.out]; exact if_pos hgt
      have Hu := Aside0.mk hu
      clear hu
      go_wp2
      refine ⟨rfl, ?_⟩
      rw [Hu.out]
      exact ⟨rfl, ⟨_, HP.out.1⟩, HP.out.2.2.2⟩
    · have hu : U = .ok (n, p) := by rw [← HU.out]; unfold upL; rw [HR.out]; exact if_neg hgt
      have Hu := Aside0.mk hu
      clear hu
      go_wp2
      go_ret
      rw [Hu.out]
      exact ⟨rfl, HP.out⟩
set_option maxHeartbeats 1000000 in
theorem left_any {w : World} {F : Nat → Prop} {g : Nat} {l : List Int} {at_ e : Int} (hI : IsRd w F g l at_ e) (h0 : 0 ≤ at_) (h1 : at_ ≤ l.length) :
    Calls Try.prog 29 #[.pointer (some ⟨g, 0, none⟩)] w fun en w' => en = .returned (.int .i64 (l.length - at_)) ∧ ∃ n, w' = w.drewN n := by
  have hlen := hI.len
  obtain ⟨A, c, i1, i2, i3, i4, i5⟩ := hI
  have c0 := blk_cell i2 0
  have c1 := blk_cell i2 1
  clear i1 i2 i4 i5
  go_enter Try.func29, Try.ntmps29
  go_wp2
  go_quiet (fail)
  go_wp2
  go_ret
  exact ⟨rfl, _, rfl⟩
set_option maxHeartbeats 1000000 in
theorem err_any {w : World} {F : Nat → Prop} {g : Nat} {l : List Int} {at_ e : Int} (hI : IsRd w F g l at_ e) :
    Calls Try.prog 23 #[.pointer (some ⟨g, 0, none⟩)] w fun en w' => en = .returned (.int .i64 e) ∧ ∃ n, w' = w.drewN n := by
  obtain ⟨A, c, i1, i2, i3, i4, i5⟩ := hI
  have c2 := blk_cell i2 2
  clear i1 i2 i4 i5
  go_enter Try.func23, Try.ntmps23
  go_wp2
  go_ret
  exact ⟨rfl, 0, rfl⟩
def copyOf (l : List Int) (w : World) (en : Ending) (w' : World) : Prop := ∃ v, en = .returned v ∧ Kd.R (Kd.int .u8) 5 w' w.heap.size (fun _ => True) v l ∧ Below w.heap.size w w'
set_option maxHeartbeats 1000000 in
theorem clone_any {w : World} {A : Option Addr} {c : Nat} {l : List Int} (hC : Kd.C (Kd.int .u8) w A l.length l) (hc : l.length ≤ c) (hl : l.length < 140737488355328) :
    Calls Try.prog 34 #[.slice A l.length c] w (copyOf l w) := by
  have HC := Aside0.mk hC
  clear hC
  have HB := Aside0.mk (Below.refl w.heap.size w)
  cases A with
  | none =>
    obtain rfl : l = [] := by
      cases l with
      | nil => rfl
      | cons x l =>
        obtain ⟨ad, e, _⟩ := HC.out.2.2 (by simp)
        cases e
    have hq : ∀ w : World, (binOp .eql 23 (.slice none 0 c) (.slice none 0 0)).run Try.prog w = .ok (.bool true) w := fun w => Lib.run_eql_slice_nil w 23 5 none 0 c 0 0 Try.underlying23
    show Calls Try.prog 34 #[.slice none 0 c] w (copyOf [] w)
    go_enter Try.func34, Try.ntmps34
    go_wp2
    go_ret
    exact ⟨_, rfl, Kd.R_nil _ _ _ _ _, Below.refl _ _⟩
  | some ad =>
    have hq : ∀ w : World, (binOp .eql 23 (.slice (some ad) l.length c) (.slice none 0 0)).run Try.prog w = .ok (.bool false) w := fun w => Lib.run_eql_slice_nil w 23 5 (some ad) l.length c 0 0 Try.underlying23
    have HL := Aside0.mk hl
    clear hl
    go_enter Try.func34, Try.ntmps34
    go_wp2_with (first
      | ((with_reducible refine gate_dst (N := 5) rfl ?_); refine Kd.R_lit (Kd.int .u8) w.heap.size 5 ?hg (N := 5) ?hd (xs := ([] : List Int)) (inner := []) (ok := fun _ => True) (okp := fun _ => True) ?hr ?hp (fun _ hk => hk) trivial (Below.refl _ _) (Nat.le_refl _) (by simp) ?_; (case hd => rfl); (case hg => rfl); (case hr => first | (go_simp; done) | (go_simp; rfl)); (case hp => exact (Reps.none _ _)); intro v1 w1 ho hb hg_ hnew_; clear hg_ hnew_; have HO1 := Aside0.mk ho; have HB1 := Aside0.mk hb; clear ho hb HB)
      | ((with_reducible refine gate_builtin (b := .append) (xs := #[.tmp 5, .tmp 6]) rfl ?_); at_builtin; refine Kd.R_append_rows (Kd.int .u8) (w0 := w) w.heap.size rfl (.tmp 5) (.tmp 6) 23 5 (.int .u8 0) 1 rfl Try.underlying23 info5 rfl (by decide) (by omega) v1 [] l _ _ _ (fun _ => True) (fun _ => False) rfl rfl HO1.out (Kd.C_below HC.out HB1.out) (fun _ _ h => h) (fun _ h => h.elim) (fun _ _ => trivial) HB1.out HB1.out.size (by have := HL.out; simp; omega) ?_; intro v2 w2 ho hb hg hat; have HO2 := Aside0.mk ho; have HB2 := Aside0.mk hb; clear ho hb hg hat HO1 HB1))
    go_ret
    exact ⟨_, rfl, HO2.out, HB2.out⟩
def BytesV (l : List Int) (b : Nat) (w : World) (v : Value) : Prop := Kd.R (Kd.int .u8) 5 w b (fun _ => True) v l
theorem bytesV_stays (l : List Int) : Stays (BytesV l) where
  mu := fun {b w1 w2 v} h hm => by
    have h2 := Kd.R_bound h
    exact Kd.R_mono (Kd.R_move h2 (fun k hk => hm.block k hk.2.2.1 (by have := hk.2.1; omega))) (fun _ _ => trivial)
  lower := fun h hb => Kd.R_lower h hb
def rawL (l : List Int) (at_ n : Int) : Except Int Int := if n > l.length - at_ then .error 3 else .ok (at_ + n)
set_option maxHeartbeats 2000000 in
theorem raw_any {w : World} {F : Nat → Prop} {g : Nat} {l : List Int} {at_ e n : Int} (hI : IsRd w F g l at_ e) (h0 : 0 ≤ at_) (h1 : at_ ≤ l.length) (hn : 0 ≤ n) (hl : l.length < 140737488355328) (hF : ∀ k, F k → k < w.heap.size) :
    Calls Try.prog 39 #[.pointer (some ⟨g, 0, none⟩), .int .u64 n] w (RdPost (BytesV ((l.drop at_.toNat).take n.toNat)) w.heap.size F g l e w (rawL l at_ n)) := by
  have HI := Aside0.mk hI
  have HF := Aside0.mk hF
  clear hF
  by_cases hlt : n > l.length - at_
  · have hr : rawL l at_ n = .error 3 := if_pos hlt
    rw [hr]
    clear hr
    have hlt' : (l.length : Int) - at_ < n := hlt
    clear hlt
    have hw : IntKind.u64.wrap ((l.length : Int) - at_) = l.length - at_ := IntWalk.u64_in _ (by omega)
    go_enter Try.func39, Try.ntmps39
    go_wp2_with (first | (go_at_call 29; refine (left_any HI.out h0 h1).mono ?_; rintro en w' ⟨rfl, n', rfl⟩))
    exact ⟨rfl, rfl, ⟨_, HI.out.put ((Mu.refl _ _).drewN _) (fun v hv => hv)⟩, (Mu.refl _ _).drewN _⟩
  · have hr : rawL l at_ n = .ok (at_ + n) := if_neg hlt
    rw [hr]
    clear hr
    have hlt' : n ≤ (l.length : Int) - at_ := by omega
    clear hlt
    have hlen := hI.len
    have hw : IntKind.u64.wrap ((l.length : Int) - at_) = l.length - at_ := IntWalk.u64_in _ (by omega)
    have hw2 : IntKind.i64.wrap n = n := IntWalk.i64_in _ (by omega)
    obtain ⟨A, c, i1, i2, i3, i4, i5⟩ := hI
    have I2 := Aside0.mk i2
    have c0 := blk_cell i2 0
    have c1 := blk_cell i2 1
    have fz := blk_frozen i2 1
    have I4 := Aside0.mk i4
    have I5 := Aside0.mk i5
    clear i1 i2 i4 i5
    go_enter Try.func39, Try.ntmps39
    go_wp2_with (first | (go_at_call 29; refine (left_any HI.out h0 h1).mono ?_; rintro en w' ⟨rfl, n', rfl⟩))
    obtain ⟨W1, hW1⟩ : ∃ W1, (w.drewN n').setCell ⟨g, 1, none⟩ (.int .i64 (at_ + n)) = W1 := ⟨_, rfl⟩
    rw [hW1]
    have J2 : W1.heap[g]? = some (.cells #[.slice A l.length c, .int .i64 (at_ + n), .int .i64 e] 57 (0, 0)) := by rw [← hW1]; exact set_at I2.out
    have hm : Mu (· = g) w W1 := by rw [← hW1]; exact ((Mu.refl (· = g) w).drewN _).setCell (p := ⟨g, 1, none⟩) (fun _ => rfl) _
    have J4 := Aside0.mk (C_mu hm I4.out (fun ad ea hn => (I5.out ad ea hn).2))
    have HM := Aside0.mk hm
    have d0 := blk_cell J2 0
    have d1 := blk_cell J2 1
    have JJ := Aside0.mk J2
    clear hW1 c0 c1 fz J2 hm hw
    obtain ⟨i0, hi, _, hz1, _⟩ := info_parts info5
    obtain ⟨A', hA'⟩ : ∃ A', (if c = at_.toNat then A else A.map (·.add (at_.toNat * 1))) = A' := ⟨_, rfl⟩
    have hcut : ∀ W : World, (Instr.slice 23 (.slice A l.length c) (some (.int .i64 at_)) (some (.int .i64 (at_ + n))) none).run Try.prog W = .ok (.slice A' n.toNat (c - at_.toNat)) W := by
      intro W
      rw [cut_mid (P := Try.prog) 23 5 .i64 .i64 Try.underlying23 hi 1 hz1 A l.length c at_ (at_ + n) h0 (by omega) (by omega) i3 W, hA', show (at_ + n).toNat - at_.toNat = n.toNat by omega]
    obtain ⟨l', hl'⟩ : ∃ l', (l.drop at_.toNat).take n.toNat = l' := ⟨_, rfl⟩
    have hll : l'.length = n.toNat := by rw [← hl', List.length_take, List.length_drop]; omega
    have hC' : Kd.C (Kd.int .u8) W1 A' l'.length l' := by
      have := Kd.C_mid (lo := at_.toNat) (hi := (at_ + n).toNat) J4.out (by omega) (by omega) i3
      rw [List.drop_take, show (at_ + n).toNat - at_.toNat = n.toNat by omega, hl'] at this
      rw [← hA']
      exact this
    have hclone := clone_any (c := c - at_.toNat) (Kd.C_drew hC') (by have := i3; omega) (by omega)
    rw [hll] at hclone
    have HC := Aside0.mk hclone
    have HLL := Aside0.mk hl'
    clear hclone hC' hll hl' hA' hi hz1 i3
    have hw3 : IntKind.i64.wrap at_ = at_ := IntWalk.i64_in _ (by omega)
    go_still_tail 16, (by kernel_rfl)
    change wpList _ _ _ _ _ W1.drew
    go_wp2_with fail
    refine HC.out.mono ?_
    rintro en w2 ⟨v, rfl, hr, hb⟩
    go_wp2_with fail
    go_ret
    have h2 : Mu (· = g) w w2 := (HM.out.drew).trans (Mu.of_below hb _)
    refine ⟨⟨v, rfl, by rw [HLL.out]; exact Kd.R_lower hr HM.out.size⟩, ?_, by omega, by omega, h2⟩
    refine HI.out.put h2 (fun v2 hv => ?_)
    rw [I2.out] at hv
    obtain rfl : Value.slice A l.length c = v2 := by
      injection hv with hv
      injection hv with hv
      simpa using hv
    exact (Mu.of_below hb (fun _ => False)).heap (show W1.drew.heap[g]? = _ from JJ.out) (fun h => h)
end Go.Proofs.Ytabljieejnhefaa.Hand
namespace Go.Proofs.Ytabljieejnhefaa.Hand
open Go.RowKit Go.Proofs.YtabljieejnhefaaW.PrintWords Go.Proofs.YtabljieejnhefaaW.PrintLast
theorem numL_nz (l : List Int) : ∀ (k i : Nat) (n p : Int) (x : Int), numL l k i n p = .error x → (x != 0) = true
  | 0, i, n, p, x, h => by
    simp only [numL] at h
    injection h with h
    subst h
    rfl
  | k + 1, i, n, p, x, h => by
    simp only [numL] at h
    split at h
    · injection h with h; subst h; rfl
    · split at h
      · injection h with h; subst h; rfl
      · split at h
        · cases h
        · exact numL_nz l k _ _ _ x h
theorem upL_nz (l : List Int) (p m : Int) (x : Int) (h : upL l p m = .error x) : (x != 0) = true := by
  unfold upL at h
  split at h
  · split at h
    · injection h with h; subst h; rfl
    · cases h
  · next y e => injection h with h; subst h; exact numL_nz l _ _ _ _ _ e
def NumV (n : Int) (_ : Nat) (_ : World) (v : Value) : Prop := v = .int .u64 n
theorem numV_stays (n : Int) : Stays (NumV n) where
  mu := fun h _ => h
  lower := fun h _ => h
def posOf : Except Int (Int × Int) → Except Int Int
  | .ok (_, p) => .ok p
  | .error x => .error x
def valOf : Except Int (Int × Int) → Int
  | .ok (n, _) => n
  | .error _ => 0
theorem rd_of_num {F : Nat → Prop} {g : Nat} {l : List Int} {e : Int} {w : World} {R : Except Int (Int × Int)} {b : Nat} {en : Ending} {w' : World} (h : NumPost F g l e w (Value.int .u64) R en w') :
    RdPost (NumV (valOf R)) b F g l e w (posOf R) en w' := by
  cases R with
  | error x => exact h
  | ok np =>
    obtain ⟨h1, h2, h3, h4, h5⟩ := h
    exact ⟨⟨_, h1, rfl⟩, h2, h4, h3, h5⟩
theorem posOf_nz {R : Except Int (Int × Int)} (h : ∀ x, R = .error x → (x != 0) = true) : ∀ x, posOf R = .error x → (x != 0) = true := by
  intro x hx
  cases R with
  | error y => exact h x (by simpa [posOf] using hx)
  | ok np => cases hx
def numOut : Except Int (Int × Int) → Int × Int × Int
  | .ok (n, p) => (n, p, 0)
  | .error x => (0, 0, x)
def getV (l : List Int) (at_ : Int) : Int × Int × Int := if at_ < 0 then (0, 0, 1) else if l.length < at_ then (0, 0, 1) else numOut (numL l 10 0 0 at_)
def wire_Get.f (l0 : List Int) (a1 : Int) : Option (Int × Int × Int) := some (getV l0 a1)
set_option maxHeartbeats 2000000 in
theorem wire_Get.calls (A0 : Option Addr) (c0 : Nat) (l0 : List Int) (a1 : Int) (r1 : Int) (r2 : Int) (r3 : Int) (w : World) (hr0 : Kd.C (Kd.int .u8) w A0 l0.length l0) (hc0 : l0.length ≤ c0) (h : wire_Get.f l0 a1 = some (r1, r2, r3)) :
    Calls Try.prog 10 #[.slice A0 l0.length c0, .int .i64 a1] w fun e w' => e = .returned (.tuple #[.int .u64 r1, .int .i64 r2, .int .i64 r3]) ∧ Below w.heap.size w w' := by
  have hv : getV l0 a1 = (r1, r2, r3) := Option.some.inj h
  clear h
  have hlen := hr0.2.1
  have HR := Aside0.mk hr0
  have HV := Aside0.mk hv
  clear hr0 hv
  by_cases h1 : a1 < 0
  · have hv : (r1, r2, r3) = (0, 0, 1) := by rw [← HV.out]; exact if_pos h1
    obtain ⟨rfl, rfl, rfl⟩ : r1 = 0 ∧ r2 = 0 ∧ r3 = 1 := by simpa using hv
    clear hv HV
    have e1 : decide (a1 < 0) = true := decide_eq_true h1
    go_enter Try.func10, Try.ntmps10
    go_wp2
    go_ret3
    exact ⟨rfl, Below.refl _ _⟩
  by_cases h2 : (l0.length : Int) < a1
  · have hv : (r1, r2, r3) = (0, 0, 1) := by rw [← HV.out]; unfold getV; rw [if_neg h1, if_pos h2]
    obtain ⟨rfl, rfl, rfl⟩ : r1 = 0 ∧ r2 = 0 ∧ r3 = 1 := by simpa using hv
    clear hv HV
    have e1 : decide (a1 < 0) = false := decide_eq_false h1
    have e2 : decide ((l0.length : Int) < a1) = true := decide_eq_true h2
    go_enter Try.func10, Try.ntmps10
    go_wp2
    go_ret3
    exact ⟨rfl, Below.refl _ _⟩
  have e1 : decide (a1 < 0) = false := decide_eq_false h1
  have e2 : decide ((l0.length : Int) < a1) = false := decide_eq_false h2
  have b1 : 0 ≤ a1 := by omega
  have b2 : a1 ≤ l0.length := by omega
  obtain ⟨R, hR⟩ : ∃ R, numL l0 10 0 0 a1 = R := ⟨_, rfl⟩
  have hv : (r1, r2, r3) = numOut R := by
    rw [← HV.out]; unfold getV; rw [if_neg h1, if_neg h2, hR]
  have HVV := Aside0.mk hv
  have HRR := Aside0.mk hR
  clear h1 h2 hv hR HV
  have hmf : ∀ (fn : Fn) (first cap : Array Value) (w : World), (Instr.makeFunc fn first cap).run Try.prog w = .ok (.func fn first cap) w := fun _ _ _ _ => rfl
  obtain ⟨W, hW, hg, hWs, hWb⟩ : ∃ W, w.alloc (.cells #[.slice A0 l0.length c0, .int .i64 a1, .int .i64 0] 57) = W ∧ W.heap[w.heap.size]? = some (.cells #[.slice A0 l0.length c0, .int .i64 a1, .int .i64 0] 57 (0, 0)) ∧ W.heap.size = w.heap.size + 1 ∧ Below w.heap.size w W :=
    ⟨_, rfl, alloc_new _ _, by simp, below_alloc (Below.refl _ _) _⟩
  have hI : IsRd W (fun k => k = w.heap.size ∨ (k < w.heap.size)) w.heap.size l0 a1 0 := by
    refine ⟨A0, c0, .inl rfl, hg, hc0, Kd.C_below HR.out hWb, fun ad ea hn => ?_⟩
    obtain ⟨ad', e, hc⟩ := HR.out.2.2 hn
    rw [ea] at e
    obtain rfl := Option.some.inj e
    obtain ⟨c, hcl, hk, hcell⟩ := hc 0 l0[0] (by simp [hn])
    have hk' : c = [.int .u8 l0[0]] := hk
    subst hk'
    have := World.block_lt_of_cell? _ _ (hcell 0 _ rfl)
    rw [add_block] at this
    exact ⟨.inr this, by omega⟩
  have HI := Aside0.mk hI
  have HW := Aside0.mk hW
  have HWs := Aside0.mk hWs
  have HWb := Aside0.mk hWb
  clear hW hWs hWb hg hI
  go_enter Try.func10, Try.ntmps10
  go_wp2_with fail
  rw [HW.out]
  refine (triesdU (numV_stays (valOf R)) (fun b w v h => ⟨_, h⟩) (f := 33) (first := #[.pointer (some ⟨w.heap.size, 0, none⟩)]) (cap := #[]) (args := #[.pointer (some ⟨w.heap.size, 0, none⟩)]) rfl (fun w => by kernel_rfl) (posOf R) (posOf_nz (fun x hx => numL_nz l0 _ _ _ _ x (HRR.out.trans hx))) HI.out (by intro k hk; rw [HWs.out]; omega)
    (fun _ w1 hb1 => (num_as HRR.out (HI.out.mu (Mu.of_below hb1 (fun _ => False)) (fun _ _ h => h)) b1 b2).mono (fun en w' h => rd_of_num h))).mono ?_
  rintro en w2 ⟨hm, hcase⟩
  have hb2 : Below w.heap.size w w2 := Mu.below_of HWb.out hm (by intro k hk; omega)
  have HB2 := Aside0.mk hb2
  clear hb2 hm
  cases R with
  | ok np =>
    obtain ⟨n, p⟩ := np
    obtain ⟨rfl, rfl, rfl⟩ : r1 = n ∧ r2 = p ∧ r3 = 0 := by simpa [numOut] using HVV.out
    rcases hcase with ⟨h, _⟩ | ⟨_, p', hp', ⟨v, rfl, hres⟩, hI2, _⟩ | ⟨_, x, hx, _⟩
    · exact absurd rfl h
    · obtain rfl : r2 = p' := by simpa [posOf] using hp'
      obtain rfl : v = .int .u64 r1 := hres
      obtain ⟨v2, hb⟩ := hI2.blk
      have d2 := blk_cell hb 2
      have d1 := blk_cell hb 1
      clear hI2 hb hp'
      go_wp2_with fail
      go_quiet (fail)
      go_wp2_with fail
      go_ret3
      exact ⟨rfl, pw_below_drewN HB2.out _⟩
    · cases hx
  | error x =>
    obtain ⟨rfl, rfl, rfl⟩ : r1 = 0 ∧ r2 = 0 ∧ r3 = x := by simpa [numOut] using HVV.out
    have hx0 : (r3 != 0) = true := numL_nz l0 _ _ _ _ _ HRR.out
    rcases hcase with ⟨h, _⟩ | ⟨_, p', hp', _⟩ | ⟨_, y, hy, rfl, hI2⟩
    · exact absurd rfl h
    · cases hp'
    · obtain rfl : r3 = y := by simpa [posOf] using hy
      obtain ⟨v2, hb⟩ := hI2.blk
      have d2 := blk_cell hb 2
      clear hI2 hb hy
      go_wp2_with fail
      go_quiet (fail)
      go_wp2_with fail
      go_ret3
      exact ⟨rfl, pw_below_drewN HB2.out _⟩
theorem two_new (w : World) (o0 o1 : Obj) : ∃ W, (w.alloc o0).alloc o1 = W ∧ W.heap[w.heap.size]? = some o0 ∧ W.heap[w.heap.size + 1]? = some o1 ∧ W.heap.size = w.heap.size + 2 ∧ Below w.heap.size w W := by
  have s1 : (w.alloc o0).heap.size = w.heap.size + 1 := by simp
  refine ⟨_, rfl, alloc_old (alloc_new _ _), ?_, by simp, below_alloc (below_alloc (Below.refl _ _) _) _⟩
  have := alloc_new (w.alloc o0) o1
  rw [s1] at this
  exact this
def rdNum (l : List Int) (at_ e most : Int) : Int × Int × Int := if e ≠ 0 then (0, at_, e) else match upL l at_ most with
  | .ok (n, p) => (n, p, 0)
  | .error x => (0, at_, x)
def RdOut (enc : Int → Value) (F : Nat → Prop) (g : Nat) (l : List Int) (w : World) (r : Int × Int × Int) (en : Ending) (w' : World) : Prop :=
  en = .returned (enc r.1) ∧ IsRd w' F g l r.2.1 r.2.2 ∧ 0 ≤ r.2.1 ∧ r.2.1 ≤ l.length ∧ Mu (· = g) w w'
set_option maxHeartbeats 1000000 in
theorem num1_any {w : World} {F : Nat → Prop} {g pr pm : Nat} {l : List Int} {at_ e most : Int} (hI : IsRd w F g l at_ e) (h0 : 0 ≤ at_) (h1 : at_ ≤ l.length)
    (hr : w.heap[pr]? = some (.cells #[.pointer (some ⟨g, 0, none⟩)] 38 (0, 0))) (hm : w.heap[pm]? = some (.cells #[.int .u64 most] 22 (0, 0))) :
    Calls Try.prog 35 #[.pointer (some ⟨pr, 0, none⟩), .pointer (some ⟨pm, 0, none⟩)] w (NumPost F g l e w (Value.int .u64) (upL l at_ most)) := by
  have cr := blk_cell hr 0
  have cm := blk_cell hm 0
  have HU := Aside0.mk (upTo_any (most := most) hI h0 h1)
  clear hI hr hm
  obtain ⟨R, hR⟩ : ∃ R, upL l at_ most = R := ⟨_, rfl⟩
  rw [hR] at HU ⊢
  clear hR
  go_enter Try.func35, Try.ntmps35
  go_wp2_with fail
  refine HU.out.mono ?_
  clear HU
  cases R with
  | error x =>
    rintro en w1 ⟨rfl, h⟩
    exact ⟨rfl, rfl, h⟩
  | ok np =>
    rintro en w1 ⟨rfl, h⟩
    have H := Aside0.mk h
    clear h
    go_wp2_with fail
    go_ret
    exact ⟨rfl, H.out⟩
set_option maxHeartbeats 1000000 in
theorem Num_any {w : World} {F : Nat → Prop} {g : Nat} {l : List Int} {at_ e most : Int} (hI : IsRd w F g l at_ e) (hF : ∀ k, F k → k < w.heap.size) (h0 : 0 ≤ at_) (h1 : at_ ≤ l.length) :
    Calls Try.prog 21 #[.pointer (some ⟨g, 0, none⟩), .int .u64 most] w (RdOut (Value.int .u64) F g l w (rdNum l at_ e most)) := by
  have HI := Aside0.mk hI
  have HF := Aside0.mk hF
  clear hI hF
  obtain ⟨W, hW, b0, b1, hWs, hWb⟩ := two_new w (.cells #[.pointer (some ⟨g, 0, none⟩)] 38) (.cells #[.int .u64 most] 22)
  have HW := Aside0.mk hW
  have B0 := Aside0.mk b0
  have B1 := Aside0.mk b1
  have HWs := Aside0.mk hWs
  have HWb := Aside0.mk hWb
  have hmf : ∀ (fn : Fn) (first cap : Array Value) (w : World), (Instr.makeFunc fn first cap).run Try.prog w = .ok (.func fn first cap) w := fun _ _ _ _ => rfl
  clear hW b0 b1 hWs hWb
  go_enter Try.func21, Try.ntmps21
  go_wp2_with fail
  rw [HW.out]
  have hIW : IsRd W F g l at_ e := HI.out.mu (Mu.of_below HWb.out (fun _ => False)) (fun _ _ h => h)
  refine (triesdU (numV_stays (valOf (upL l at_ most))) (fun b w v h => ⟨_, h⟩) (f := 35) (first := #[]) (cap := #[.pointer (some ⟨w.heap.size, 0, none⟩), .pointer (some ⟨w.heap.size + 1, 0, none⟩)]) (args := #[.pointer (some ⟨w.heap.size, 0, none⟩), .pointer (some ⟨w.heap.size + 1, 0, none⟩)]) rfl (fun w => by kernel_rfl) (posOf (upL l at_ most)) (posOf_nz (fun x hx => upL_nz l _ _ x hx)) hIW (fun k hk => by rw [HWs.out]; have := HF.out k hk; omega)
    (fun he w1 hb1 => by
      subst he
      have hm1 := Mu.of_below hb1 (fun _ => False)
      exact (num1_any (hIW.mu hm1 (fun _ _ h => h)) h0 h1 (hm1.heap B0.out (fun h => h)) (hm1.heap B1.out (fun h => h))).mono (fun en w' h => rd_of_num h))).mono ?_
  rintro en w2 ⟨hm, hcase⟩
  have hm2 : Mu (· = g) w w2 := (Mu.of_below HWb.out _).trans hm
  have fin : ∃ v, en = .returned (.int .u64 v) ∧ RdOut (Value.int .u64) F g l w (rdNum l at_ e most) (.returned (.int .u64 v)) w2 := by
    rcases hcase with ⟨h, rfl, hI2⟩ | ⟨rfl, p', hp', ⟨v, rfl, hres⟩, hI2, q0, q1⟩ | ⟨rfl, x, hx, rfl, hI2⟩
    · refine ⟨0, rfl, ?_⟩
      unfold rdNum
      rw [if_pos h]
      exact ⟨rfl, hI2, h0, h1, hm2⟩
    · cases hu : upL l at_ most with
      | error x => rw [hu] at hp'; cases hp'
      | ok np =>
        obtain ⟨n, p⟩ := np
        rw [hu] at hp' hres
        obtain rfl : p = p' := by simpa [posOf] using hp'
        obtain rfl : v = .int .u64 n := hres
        refine ⟨n, rfl, ?_⟩
        unfold rdNum
        rw [if_neg (by simp), hu]
        exact ⟨rfl, hI2, q0, q1, hm2⟩
    · cases hu : upL l at_ most with
      | ok np => rw [hu] at hx; cases hx
      | error y =>
        rw [hu] at hx
        obtain rfl : y = x := by simpa [posOf] using hx
        refine ⟨0, rfl, ?_⟩
        unfold rdNum
        rw [if_neg (by simp), hu]
        exact ⟨rfl, hI2, h0, h1, hm2⟩
  obtain ⟨v, rfl, hfin⟩ := fin
  have HFin := Aside0.mk hfin
  clear hfin hcase hm hm2 hIW
  go_wp2_with fail
  go_ret
  exact HFin.out
end Go.Proofs.Ytabljieejnhefaa.Hand
namespace Go.Proofs.Ytabljieejnhefaa.PA
open Go.RowKit Go.Proofs.YtabljieejnhefaaW.PrintWords Go.Proofs.YtabljieejnhefaaW.PrintLast Go.Proofs.YtabljieejnhefaaW.PrintMore
attribute [local go_sem] max2_int min2_int max_two min_two max_three min_three max_four min_four
open Go.Proofs.Ytabljieejnhefaa.Hand
set_option linter.unusedVariables false
set_option linter.unusedSimpArgs false
def errW : Option Int → Value
  | none => .nilIface
  | some c => .iface 0 (.int .i64 c)
theorem errW_none : errW none = .nilIface := rfl
theorem errW_some (c : Int) : errW (some c) = .iface 0 (.int .i64 c) := rfl
theorem info5 : (Try.prog.info? 5).map (fun i => (i.zero, i.size, i.bytes)) = some (some (.int .u8 0), 1, 1) := by kernel_rfl
end Go.Proofs.Ytabljieejnhefaa.PA
namespace Go.Proofs.Ytabljieejnhefaa.PA
open Go.RowKit Go.Proofs.YtabljieejnhefaaW.PrintWords Go.Proofs.YtabljieejnhefaaW.PrintLast Go.Proofs.YtabljieejnhefaaW.PrintMore
attribute [local go_sem] max2_int min2_int max_two min_two max_three min_three max_four min_four
open Go.Proofs.Ytabljieejnhefaa.Hand
set_option linter.unusedVariables false
set_option linter.unusedSimpArgs false
def tikref_Bytes.f (l0 : List Int) (l1 : List Int) : Option (Bool) := some ((strOfNums l0).toList == (strOfNums l1).toList)
set_option maxHeartbeats 8000000 in
set_option maxRecDepth 100000 in
theorem tikref_Bytes.calls (A0 : Option Addr) (c0 : Nat) (l0 : List Int) (A1 : Option Addr) (c1 : Nat) (l1 : List Int) (r : Bool) (w : World) (hr0 : Kd.C (Kd.int .u8) w A0 l0.length l0) (hc0 : l0.length ≤ c0) (hr1 : Kd.C (Kd.int .u8) w A1 l1.length l1) (hc1 : l1.length ≤ c1) (h : tikref_Bytes.f l0 l1 = some r) :
    Calls Try.prog 12 #[.slice A0 l0.length c0, .slice A1 l1.length c1] w fun e w' => e = .returned (.bool r) ∧ Drawn0 w w' := by
  have HR0 := Aside0.mk hr0
  have HC0 := Aside0.mk hc0
  clear hr0 hc0
  have HR1 := Aside0.mk hr1
  have HC1 := Aside0.mk hc1
  clear hr1 hc1
  have H : (some ((strOfNums l0).toList == (strOfNums l1).toList)) = some r := h
  clear h
  obtain rfl := Option.some.inj H
  have hcv3 := Kd.C_string (P := Try.prog) (A := A0) (c := c0) Try.underlying23 Try.underlying5 Try.underlying9 HR0.out
  have hcv4 := Kd.C_string (P := Try.prog) (A := A1) (c := c1) Try.underlying23 Try.underlying5 Try.underlying9 HR1.out
  go_enter Try.func12, Try.ntmps12
  go_wp2
  go_ret
  exact ⟨by first | rfl | (simp; done) | (simp [*]; done), by repeat (first | exact Drawn0.refl _ | apply Drawn0.step)⟩
def wire_Var.l0 : Nat → Int → List Int → Option (List Int)
  | 0, _, _ => none
  | k + 1, x0, x3 => if x0 ≥ 128 then (if x3.length < 140737488355328 then (wire_Var.l0 k (x0 / 128) (x3 ++ [Go.bits .or .u8 ((x0) % 256) 128])) else (none)) else (if x3.length < 140737488355328 then (some (x3 ++ [(x0) % 256])) else (none))
def wire_Var.f (k : Nat) (a0 : Int) : Option (List Int) := wire_Var.l0 k a0 ([] : List Int)
set_option maxHeartbeats 8000000 in
set_option maxRecDepth 100000 in
theorem wire_Var.calls (k : Nat) (a0 : Int) (r : List Int) (w : World) (h : wire_Var.f k a0 = some r) :
    Calls Try.prog 13 #[.int .u64 a0] w fun e w' => ∃ v0_ : Value, e = .returned (v0_) ∧ Kd.R (Kd.int .u8) 5 w' w.heap.size (fun _ => True) v0_ r ∧ Below w.heap.size w w' := by
  have HB := Aside0.mk (Below.refl w.heap.size w)
  have H : (wire_Var.l0 k a0 ([] : List Int)) = some r := h
  clear h
  have H' := Aside0.mk H
  clear H
  go_enter Try.func13, Try.ntmps13
  go_wp2
  go_loopg [0, 3] k (fun kq v0 v3 w' => ∃ (x0_1 : Int) (x3_1 : List Int), v0 = .int .u64 x0_1 ∧ Aside0 (wire_Var.l0 kq x0_1 x3_1 = some r) ∧ Aside0 (kq ≤ k) ∧ Aside0 (Kd.R (Kd.int .u8) 5 w' w.heap.size (fun _ => True) v3 x3_1) ∧ Aside0 (Below w.heap.size w w'))
  case atStart => exact ⟨(a0), (([] : List Int)), (by first | rfl | (simp; done) | (simp [*]; done)), H', ⟨Nat.le_refl _⟩, ⟨by first | exact Kd.R_nil _ _ _ _ _ | exact Kd.N_nil _ _ _ _ _ | exact Kd.V_nil _ _ _ _ _ | exact Kd.Q_nil _ _ _ _ _ | exact Kd.S_nil _ _ _ _ _⟩, ⟨by repeat (first | (with_reducible first | exact HB.out | apply below_alloc | apply pw_below_drewN | apply below_drew1) | exact HB.out)⟩⟩
  case round =>
    clear H'
    try clear c1
    obtain ⟨x0_1, x3_1, rfl, HA, HK1, HO_3, HB⟩ := hrel
    cases gk with
    | zero => exact absurd HA.out (by simp [wire_Var.l0])
    | succ k1 =>
      have H := HA.out
      clear HA
      simp only [wire_Var.l0] at H
      by_cases c2 : x0_1 ≥ 128
      · rw [if_pos c2] at H
        have c2b0 : decide (128 ≤ x0_1) = true := decide_eq_true c2
        clear c2
        by_cases c3 : x3_1.length < 140737488355328
        · rw [if_pos c3] at H
          have LMc3 := Aside0.mk c3
          clear c3
          obtain ⟨y101, hy101⟩ : ∃ y_ : List Int, y_ = (x3_1 ++ [Go.bits .or .u8 ((x0_1) % 256) 128]) := ⟨_, rfl⟩
          replace H : (wire_Var.l0 k1 (x0_1 / 128) y101) = some r := by first | (rw [hy101]; with_reducible exact H) | (have H2_ := (Option.bind_some _ _).symm.trans H; rw [hy101]; with_reducible exact H2_) | (have H2_ := (Option.bind_some _ _).symm.trans H; with_reducible exact H2_) | with_reducible exact H | (rw [hy101]; exact H) | exact H
          have Ny101 := Aside0.mk hy101
          clear hy101
          have H' := Aside0.mk H
          clear H
          go_wp2_with (first | ((with_reducible refine gate_builtin (b := .append) (xs := #[.tmp 8, .tmp 12]) rfl ?_); at_builtin; refine Kd.R_append (Kd.int .u8) (w0 := w) w.heap.size rfl (.tmp 8) (.tmp 12) 23 5 (.int .u8 0) 1 rfl Try.underlying23 info5 rfl (by decide) (by omega) u3 x3_1 (Go.bits .or .u8 ((x0_1) % 256) 128) [.int .u8 (Go.bits .or .u8 ((x0_1) % 256) 128)] (fun _ => True) (fun _ => False) rfl rfl ?aP (fun _ hk => hk.elim) ?aF ?aO ?aB ?aS ?aL ?_; (case aP => exact rfl); (case aB => exact (by repeat (first | (with_reducible first | exact HB.out | apply below_alloc | apply pw_below_drewN | apply below_drew1) | exact HB.out))); (case aF => exact (fun _ _ => trivial)); (case aO => exact (by (with_reducible repeat (first | apply Kd.R_alloc | apply Kd.R_drewN | apply Kd.R_drew)); exact HO_3.out)); (case aS => exact (below_size (by repeat (first | (with_reducible first | exact HB.out | apply below_alloc | apply pw_below_drewN | apply below_drew1) | exact HB.out)))); (case aL => have := LMc3.out; omega); intro v102 w4 ho hb hg hat; rw [← Ny101.out] at ho; have n0_ := Aside0.mk (hb); have n1_ := Aside0.mk (ho); clear HB; clear HO_3; have HB := n0_; have HO103 := n1_; clear n0_ n1_; clear ho hb hg hat))
          go_roundg k1
          case measure => have := HK1.out; omega
          case rel => exact ⟨(x0_1 / 128), (y101), (by first | rfl | (simp; done) | (simp [*]; done)), H', ⟨by have := HK1.out; omega⟩, ⟨by (with_reducible repeat (first | apply Kd.R_alloc | apply Kd.R_drewN | apply Kd.R_drew)); exact HO103.out⟩, ⟨by repeat (first | (with_reducible first | exact HB.out | apply below_alloc | apply pw_below_drewN | apply below_drew1) | exact HB.out)⟩⟩
        · rw [if_neg c3] at H
          exact absurd H (by simp)
      · rw [if_neg c2] at H
        have c2b0 : decide (128 ≤ x0_1) = false := decide_eq_false c2
        clear c2
        by_cases c5 : x3_1.length < 140737488355328
        · rw [if_pos c5] at H
          have LMc5 := Aside0.mk c5
          clear c5
          obtain ⟨y104, hy104⟩ : ∃ y_ : List Int, y_ = (x3_1 ++ [(x0_1) % 256]) := ⟨_, rfl⟩
          replace H : (some y104) = some r := by first | (rw [hy104]; with_reducible exact H) | (have H2_ := (Option.bind_some _ _).symm.trans H; rw [hy104]; with_reducible exact H2_) | (have H2_ := (Option.bind_some _ _).symm.trans H; with_reducible exact H2_) | with_reducible exact H | (rw [hy104]; exact H) | exact H
          have Ny104 := Aside0.mk hy104
          clear hy104
          obtain rfl := Option.some.inj H
          go_wp2_with (first | ((with_reducible refine gate_builtin (b := .append) (xs := #[.tmp 14, .tmp 17]) rfl ?_); at_builtin; refine Kd.R_append (Kd.int .u8) (w0 := w) w.heap.size rfl (.tmp 14) (.tmp 17) 23 5 (.int .u8 0) 1 rfl Try.underlying23 info5 rfl (by decide) (by omega) u3 x3_1 ((x0_1) % 256) [.int .u8 ((x0_1) % 256)] (fun _ => True) (fun _ => False) rfl rfl ?aP (fun _ hk => hk.elim) ?aF ?aO ?aB ?aS ?aL ?_; (case aP => exact rfl); (case aB => exact (by repeat (first | (with_reducible first | exact HB.out | apply below_alloc | apply pw_below_drewN | apply below_drew1) | exact HB.out))); (case aF => exact (fun _ _ => trivial)); (case aO => exact (by (with_reducible repeat (first | apply Kd.R_alloc | apply Kd.R_drewN | apply Kd.R_drew)); exact HO_3.out)); (case aS => exact (below_size (by repeat (first | (with_reducible first | exact HB.out | apply below_alloc | apply pw_below_drewN | apply below_drew1) | exact HB.out)))); (case aL => have := LMc5.out; omega); intro v105 w6 ho hb hg hat; rw [← Ny104.out] at ho; have n0_ := Aside0.mk (hb); have n1_ := Aside0.mk (ho); clear HB; clear HO_3; have HB := n0_; have HO106 := n1_; clear n0_ n1_; clear ho hb hg hat))
          go_ret
          exact ⟨_, by first | rfl | (simp [errW_none, errW_some] <;> rfl) | (simp [*, errW_none, errW_some] <;> rfl), by (with_reducible repeat (first | apply Kd.R_alloc | apply Kd.R_drewN | apply Kd.R_drew)); exact HO106.out, by repeat (first | (with_reducible first | exact HB.out | apply below_alloc | apply pw_below_drewN | apply below_drew1) | exact HB.out)⟩
        · rw [if_neg c5] at H
          exact absurd H (by simp)
mutual
def wire_Crc.l0 : Nat → Int → List Int → Int → Int → Option (Int)
  | 0, _, _, _, _ => none
  | k + 1, x3, x7, x8, x9 => if x9 < x8 then (if 0 ≤ x9 then (if x9 < (x7.length : Int) then (wire_Crc.l1 k (Go.bits .xor .u32 x3 ((rd x7 x9) % 4294967296)) x7 x8 x9 0) else (none)) else (none)) else (some (Go.bits .xor .u32 x3 4294967295))
def wire_Crc.l1 : Nat → Int → List Int → Int → Int → Int → Option (Int)
  | 0, _, _, _, _, _ => none
  | k + 1, x3, x7, x8, x9, x17 => if x17 < 8 then (wire_Crc.l1 k (Go.bits .xor .u32 (x3 / 2) ((3988292384 * (Go.bits .and .u32 x3 1)) % 4294967296)) x7 x8 x9 (wrap64 (x17 + 1))) else (wire_Crc.l0 k x3 x7 x8 (wrap64 (x9 + 1)))
end
def wire_Crc.f (k : Nat) (l0 : List Int) : Option (Int) := wire_Crc.l0 k 4294967295 l0 (l0.length : Int) 0
set_option maxHeartbeats 8000000 in
set_option maxRecDepth 100000 in
theorem wire_Crc.calls (k : Nat) (A0 : Option Addr) (c0 : Nat) (l0 : List Int) (r : Int) (w : World) (hr0 : Kd.C (Kd.int .u8) w A0 l0.length l0) (hc0 : l0.length ≤ c0) (h : wire_Crc.f k l0 = some r) :
    Calls Try.prog 15 #[.slice A0 l0.length c0] w fun e w' => e = .returned (.int .u32 r) ∧ Drawn0 w w' := by
  have HR0 := Aside0.mk hr0
  have HC0 := Aside0.mk hc0
  clear hr0 hc0
  have H : (wire_Crc.l0 k 4294967295 l0 (l0.length : Int) 0) = some r := h
  clear h
  have H' := Aside0.mk H
  clear H
  go_enter Try.func15, Try.ntmps15
  go_wp2
  go_loopg [3, 9] k (fun kq v3 v9 w' => ∃ (x3_1 : Int) (x9_1 : Int), v3 = .int .u32 x3_1 ∧ v9 = .int .i64 x9_1 ∧ Aside0 (wire_Crc.l0 kq x3_1 l0 (l0.length : Int) x9_1 = some r) ∧ Aside0 (kq ≤ k) ∧ Drawn0 w w')
  case atStart => exact ⟨(4294967295), (0), (by first | rfl | (simp; done) | (simp [*]; done)), (by first | rfl | (simp; done) | (simp [*]; done)), H', ⟨Nat.le_refl _⟩, by repeat (first | exact Drawn0.refl _ | apply Drawn0.step)⟩
  case round =>
    clear H'
    try clear c1
    obtain ⟨x3_1, x9_1, rfl, rfl, HA, HK1, ⟨m1, rfl⟩⟩ := hrel
    cases gk with
    | zero => exact absurd HA.out (by simp [wire_Crc.l0])
    | succ k1 =>
      have H := HA.out
      clear HA
      simp only [wire_Crc.l0] at H
      by_cases c2 : x9_1 < (l0.length : Int)
      · rw [if_pos c2] at H
        have c2b0 : decide (x9_1 < (l0.length : Int)) = true := decide_eq_true c2
        clear c2
        by_cases c3 : 0 ≤ x9_1
        · rw [if_pos c3] at H
          have c3b0 : decide (0 ≤ x9_1) = true := decide_eq_true c3
          clear c3
          by_cases c4 : x9_1 < (l0.length : Int)
          · rw [if_pos c4] at H
            have c4b0 : decide (x9_1 < (l0.length : Int)) = true := decide_eq_true c4
            clear c4
            have H' := Aside0.mk H
            clear H
            have p107 : 0 ≤ (x9_1 : Int) := of_decide_eq_true (by first | (with_reducible assumption) | assumption)
            have q107 : x9_1 < (l0.length : Int) := of_decide_eq_true (by first | (with_reducible assumption) | assumption)
            obtain ⟨ad107, e107, hx107_0⟩ := Kd.at_int HR0.out x9_1 p107 q107
            cases e107
            replace p107 := eq_true p107
            replace q107 := eq_true q107
            go_wp2
            go_loopg [3, 17] k1 (fun kq v3 v17 w' => ∃ (x3_2 : Int) (x17_2 : Int), v3 = .int .u32 x3_2 ∧ v17 = .int .i64 x17_2 ∧ Aside0 (wire_Crc.l1 kq x3_2 l0 (l0.length : Int) x9_1 x17_2 = some r) ∧ Aside0 (kq ≤ k1) ∧ Drawn0 w w')
            case atStart => exact ⟨(Go.bits .xor .u32 x3_1 ((rd l0 x9_1) % 4294967296)), (0), (by first | rfl | (simp; done) | (simp [*]; done)), (by first | rfl | (simp; done) | (simp [*]; done)), H', ⟨Nat.le_refl _⟩, by repeat (first | exact Drawn0.refl _ | apply Drawn0.step)⟩
            case round =>
              clear H'
              try clear c1
              try clear p1
              try clear q1
              try clear hx1
              try clear c2
              try clear c2b0
              try clear p2
              try clear c3
              try clear c3b0
              try clear c4
              try clear c4b0
              try clear hx107_0
              try clear p107
              try clear q107
              obtain ⟨x3_2, x17_2, rfl, rfl, HA, HK2, ⟨m2, rfl⟩⟩ := hrel
              cases gk with
              | zero => exact absurd HA.out (by simp [wire_Crc.l1])
              | succ k2 =>
                have H := HA.out
                clear HA
                simp only [wire_Crc.l1] at H
                by_cases c5 : x17_2 < 8
                · rw [if_pos c5] at H
                  have c5b0 : decide (x17_2 < 8) = true := decide_eq_true c5
                  clear c5
                  have H' := Aside0.mk H
                  clear H
                  go_wp2
                  go_roundg k2
                  case measure => have := HK1.out; have := HK2.out; omega
                  case rel => exact ⟨(Go.bits .xor .u32 (x3_2 / 2) ((3988292384 * (Go.bits .and .u32 x3_2 1)) % 4294967296)), (wrap64 (x17_2 + 1)), (by first | rfl | (simp; done) | (simp [*]; done)), (by first | rfl | (simp; done) | (simp [*]; done)), H', ⟨by have := HK1.out; have := HK2.out; omega⟩, by repeat (first | exact Drawn0.refl _ | apply Drawn0.step)⟩
                · rw [if_neg c5] at H
                  have c5b0 : decide (x17_2 < 8) = false := decide_eq_false c5
                  clear c5
                  have H' := Aside0.mk H
                  clear H
                  go_wp2
                  go_roundg k2
                  case measure => have := HK1.out; have := HK2.out; omega
                  case rel => exact ⟨(x3_2), (wrap64 (x9_1 + 1)), (by first | rfl | (simp; done) | (simp [*]; done)), (by first | rfl | (simp; done) | (simp [*]; done)), H', ⟨by have := HK1.out; have := HK2.out; omega⟩, by repeat (first | exact Drawn0.refl _ | apply Drawn0.step)⟩
          · rw [if_neg c4] at H
            exact absurd H (by simp)
        · rw [if_neg c3] at H
          exact absurd H (by simp)
      · rw [if_neg c2] at H
        have c2b0 : decide (x9_1 < (l0.length : Int)) = false := decide_eq_false c2
        clear c2
        obtain rfl := Option.some.inj H
        go_wp2
        go_ret
        exact ⟨by first | rfl | (simp; done) | (simp [*]; done), by repeat (first | exact Drawn0.refl _ | apply Drawn0.step)⟩
def wire_Four.f (a0 : Int) : Option (List Int) := some (([(a0 / 16777216) % 256, (a0 / 65536) % 256, (a0 / 256) % 256, (a0) % 256] : List Int))
set_option maxHeartbeats 8000000 in
set_option maxRecDepth 100000 in
theorem wire_Four.calls (a0 : Int) (r : List Int) (w : World) (h : wire_Four.f a0 = some r) :
    Calls Try.prog 17 #[.int .u32 a0] w fun e w' => ∃ v0_ : Value, e = .returned (v0_) ∧ Kd.R (Kd.int .u8) 5 w' w.heap.size (fun _ => True) v0_ r ∧ Below w.heap.size w w' := by
  have HB := Aside0.mk (Below.refl w.heap.size w)
  have H : (some (([(a0 / 16777216) % 256, (a0 / 65536) % 256, (a0 / 256) % 256, (a0) % 256] : List Int))) = some r := h
  clear h
  obtain ⟨y108, hy108⟩ : ∃ y_ : List Int, y_ = (([(a0 / 16777216) % 256, (a0 / 65536) % 256, (a0 / 256) % 256, (a0) % 256] : List Int)) := ⟨_, rfl⟩
  replace H : (some y108) = some r := by first | (rw [hy108]; with_reducible exact H) | (have H2_ := (Option.bind_some _ _).symm.trans H; rw [hy108]; with_reducible exact H2_) | (have H2_ := (Option.bind_some _ _).symm.trans H; with_reducible exact H2_) | with_reducible exact H | (rw [hy108]; exact H) | exact H
  have Ny108 := Aside0.mk hy108
  clear hy108
  obtain rfl := Option.some.inj H
  go_enter Try.func17, Try.ntmps17
  go_wp2_with (first | ((with_reducible refine gate_dst (N := 14) rfl ?_); refine Kd.R_lit (Kd.int .u8) _ 5 ?hg (N := 14) ?hd (xs := ([(a0 / 16777216) % 256, (a0 / 65536) % 256, (a0 / 256) % 256, (a0) % 256] : List Int)) (inner := [.int .u8 ((a0 / 16777216) % 256), .int .u8 ((a0 / 65536) % 256), .int .u8 ((a0 / 256) % 256), .int .u8 ((a0) % 256)]) (ok := fun _ => True) (okp := fun _ => True) ?hr ?hp (fun _ hk => hk) trivial (Below.refl _ _) (Nat.le_refl _) (by simp) ?_; (case hd => rfl); (case hg => rfl); (case hr => first | (go_simp; done) | (go_simp; rfl)); (case hp => exact (Reps.one (show Kd.M (Kd.int .u8) _ _ _ ((a0 / 16777216) % 256) [.int .u8 ((a0 / 16777216) % 256)] from rfl) (Reps.one (show Kd.M (Kd.int .u8) _ _ _ ((a0 / 65536) % 256) [.int .u8 ((a0 / 65536) % 256)] from rfl) (Reps.one (show Kd.M (Kd.int .u8) _ _ _ ((a0 / 256) % 256) [.int .u8 ((a0 / 256) % 256)] from rfl) (Reps.one (show Kd.M (Kd.int .u8) _ _ _ ((a0) % 256) [.int .u8 ((a0) % 256)] from rfl) (Reps.none _ _)))))); intro v109 w2 ho3 hb hg_ hnew_; clear hg_ hnew_; (first | rw [← Ny108.out] at ho3 | (simp only [Int.reduceToNat] at ho3; rw [← Ny108.out] at ho3)); have n0_ := Aside0.mk (Kd.R_lower ho3 (below_size (by repeat (first | (with_reducible first | exact HB.out | apply below_alloc | apply pw_below_drewN | apply below_drew1) | exact HB.out)))); have n1_ := Aside0.mk (below_step (by repeat (first | (with_reducible first | exact HB.out | apply below_alloc | apply pw_below_drewN | apply below_drew1) | exact HB.out)) hb); clear HB; have HO110 := n0_; have HB := n1_; clear n0_ n1_; clear hb ho3))
  go_ret
  exact ⟨_, by first | rfl | (simp [errW_none, errW_some] <;> rfl) | (simp [*, errW_none, errW_some] <;> rfl), by (with_reducible repeat (first | apply Kd.R_alloc | apply Kd.R_drewN | apply Kd.R_drew)); exact HO110.out, by repeat (first | (with_reducible first | exact HB.out | apply below_alloc | apply pw_below_drewN | apply below_drew1) | exact HB.out)⟩
mutual
def tikref2_Get.j0 : Nat → List Int → Int → Bool → Option (Int × Int × Int)
  | 0, _, _, _ => none
  | k + 1, x0, x1, x17 => if x17 = true then (some (0, 0, 1)) else (tikref2_Get.l0 k x0 x1 0 0)
def tikref2_Get.l0 : Nat → List Int → Int → Int → Int → Option (Int × Int × Int)
  | 0, _, _, _, _ => none
  | k + 1, x0, x1, x7, x8 => if x8 < 10 then (if (wrap64 (x1 + x8)) ≥ (x0.length : Int) then (some (0, 0, 3)) else (if 0 ≤ (wrap64 (x1 + x8)) then (if (wrap64 (x1 + x8)) < (x0.length : Int) then (if x8 = 9 then (tikref2_Get.j2 k x0 x1 x7 x8 (IntKind.u64.wrap (rd x0 (wrap64 (x1 + x8)))) (decide ((IntKind.u64.wrap (rd x0 (wrap64 (x1 + x8)))) > 1))) else (tikref2_Get.j2 k x0 x1 x7 x8 (IntKind.u64.wrap (rd x0 (wrap64 (x1 + x8)))) false)) else (none)) else (none))) else (some (0, 0, 2))
def tikref2_Get.j2 : Nat → List Int → Int → Int → Int → Int → Bool → Option (Int × Int × Int)
  | 0, _, _, _, _, _, _ => none
  | k + 1, x0, x1, x7, x8, x9, x40 => if x40 = true then (some (0, 0, 2)) else (if 0 ≤ (IntKind.u64.wrap (wrap64 (7 * x8))) then (if x9 < 128 then (if x9 = 0 then (if x8 > 0 then (some (0, 0, 2)) else (some (Go.bits .or .u64 x7 (shl .u64 (Go.bits .and .u64 x9 127) (IntKind.u64.wrap (wrap64 (7 * x8)))), wrap64 ((wrap64 (x1 + x8)) + 1), 0))) else (some (Go.bits .or .u64 x7 (shl .u64 (Go.bits .and .u64 x9 127) (IntKind.u64.wrap (wrap64 (7 * x8)))), wrap64 ((wrap64 (x1 + x8)) + 1), 0))) else (tikref2_Get.l0 k x0 x1 (Go.bits .or .u64 x7 (shl .u64 (Go.bits .and .u64 x9 127) (IntKind.u64.wrap (wrap64 (7 * x8))))) (wrap64 (x8 + 1)))) else (none))
end
def tikref2_Get.f (k : Nat) (l0 : List Int) (a1 : Int) : Option (Int × Int × Int) := if a1 < 0 then (tikref2_Get.j0 k l0 a1 true) else (tikref2_Get.j0 k l0 a1 (decide (a1 > (l0.length : Int))))
def tikref2_Var.l0 : Nat → Int → List Int → Option (List Int)
  | 0, _, _ => none
  | k + 1, x0, x3 => if x0 > 127 then (if x3.length < 140737488355328 then (tikref2_Var.l0 k (x0 / 128) (x3 ++ [(Go.bits .or .u64 (Go.bits .and .u64 x0 127) 128) % 256])) else (none)) else (if x3.length < 140737488355328 then (some (x3 ++ [(x0) % 256])) else (none))
def tikref2_Var.f (k : Nat) (a0 : Int) : Option (List Int) := tikref2_Var.l0 k a0 ([] : List Int)
def tikref2_Four.f (a0 : Int) : Option (List Int) := some (([(a0 / 16777216) % 256, (a0 / 65536) % 256, (a0 / 256) % 256, (a0) % 256] : List Int))
end Go.Proofs.Ytabljieejnhefaa.PA
namespace Go.Proofs.Ytabljieejnhefaa.PA
open Go.RowKit Go.Proofs.YtabljieejnhefaaW.PrintWords Go.Proofs.YtabljieejnhefaaW.PrintLast Go.Proofs.YtabljieejnhefaaW.PrintMore
attribute [local go_sem] max2_int min2_int max_two min_two max_three min_three max_four min_four
open Go.Proofs.Ytabljieejnhefaa.Hand
set_option linter.unusedVariables false
set_option linter.unusedSimpArgs false
mutual
def tikref2_Crc.l0 : Nat → List Int → Int → Int → Option (Int)
  | 0, _, _, _ => none
  | k + 1, x0, x3, x4 => if x4 < (x0.length : Int) then (if 0 ≤ x4 then (tikref2_Crc.l1 k x0 (Go.bits .xor .u32 x3 ((rd x0 x4) % 4294967296)) x4 0) else (none)) else (some (Go.bits .xor .u32 4294967295 x3))
def tikref2_Crc.l1 : Nat → List Int → Int → Int → Int → Option (Int)
  | 0, _, _, _, _ => none
  | k + 1, x0, x3, x4, x5 => if x5 < 8 then (if (Go.bits .and .u32 x3 1) = 1 then (tikref2_Crc.l1 k x0 (Go.bits .xor .u32 (x3 / 2) 3988292384) x4 (wrap64 (x5 + 1))) else (tikref2_Crc.l1 k x0 (x3 / 2) x4 (wrap64 (x5 + 1)))) else (tikref2_Crc.l0 k x0 x3 (wrap64 (x4 + 1)))
end
def tikref2_Crc.f (k : Nat) (l0 : List Int) : Option (Int) := tikref2_Crc.l0 k l0 4294967295 0
def tikref_CopyBytes.f (l0 : List Int) : Option (List Int) := (some (([] : List Int) : List Int)).bind fun y122 => (if y122.length + l0.length < 140737488355328 then (some (y122 ++ l0)) else (none))
end Go.Proofs.Ytabljieejnhefaa.PA
namespace Go.Proofs.Ytabljieejnhefaa.Hand
open Go.RowKit Go.Proofs.YtabljieejnhefaaW.PrintWords Go.Proofs.YtabljieejnhefaaW.PrintLast Go.Proofs.Ytabljieejnhefaa.PA
theorem C_block {k : IntKind} {W : World} {b t : Nat} {fr : Nat × Nat} {cs : Array Value} {xs : List Int} (h : W.heap[b]? = some (.cells cs t fr)) (hc : cs.toList = xs.map (Value.int k)) (hl : xs.length ≤ 9223372036854775807) :
    Kd.C (Kd.int k) W (some ⟨b, 0, none⟩) xs.length xs := by
  refine ⟨rfl, hl, fun _ => ⟨_, rfl, fun j p hj => ⟨[.int k p], rfl, rfl, fun i u hu => ?_⟩⟩⟩
  have hi : i = 0 := by
    cases i with
    | zero => rfl
    | succ i => simp at hu
  subst hi
  simp at hu
  subst hu
  have e : ((⟨b, 0, none⟩ : Addr).add (j * (Kd.int k).sz + 0)) = ⟨b, j, none⟩ := by
    show (⟨b, 0, none⟩ : Addr).add (j * 1 + 0) = _
    unfold Addr.add
    split
    · next h => have : j = 0 := by omega
                rw [this]
    · simp
  rw [e]
  simp only [World.cell?, h]
  have h2 : cs[j]? = some (.int k p) := by
    rw [← Array.getElem?_toList, hc, List.getElem?_map, hj]; rfl
  simpa using h2
theorem C_new {k : IntKind} {w : World} {t : Nat} {cs : Array Value} {xs : List Int} (hc : cs.toList = xs.map (Value.int k)) (hl : xs.length ≤ 9223372036854775807) :
    Kd.C (Kd.int k) (w.alloc (.cells cs t)) (some ⟨w.heap.size, 0, none⟩) xs.length xs := C_block (alloc_new _ _) hc hl
def tiklaw2_first.f : Option Bool := some true
set_option maxHeartbeats 2000000 in
theorem tiklaw2_first.calls (r : Bool) (w : World) (h : tiklaw2_first.f = some r) :
    Calls Try.prog 9 #[] w fun e w' => e = .returned (.bool r) ∧ Below w.heap.size w w' := by
  obtain rfl : true = r := Option.some.inj h
  clear h
  have kc := fun (w : World) (C : Array Value) (n c : Nat) => Lib.run_convert_bytes_const (P := Try.prog) w 23 5 C n c Try.underlying23 Try.underlying5
  go_enter Try.func9, Try.ntmps9
  go_wp2_with fail
  refine (wire_Get.calls (some ⟨w.heap.size, 0, none⟩) 2 [172, 2] 0 300 2 0 _ (C_new rfl (by decide)) (by decide) (by decide +kernel)).mono ?_
  rintro en w1 ⟨rfl, hb1⟩
  have HB1 := Aside0.mk (below_step (below_alloc (Below.refl w.heap.size w) _) hb1)
  clear hb1
  go_wp2_with fail
  refine (wire_Var.calls 5 300 [172, 2] _ (by decide +kernel)).mono ?_
  rintro en w2 ⟨v2, rfl, hr2, hb2⟩
  obtain ⟨A2, c2, rfl, hc2, hC2⟩ := Kd.R_reads hr2
  have HC2 := Aside0.mk hC2
  have HB2 := Aside0.mk (below_step HB1.out hb2)
  clear hr2 hb2 hC2 HB1
  go_wp2_with fail
  refine (tikref_Bytes.calls A2 c2 [172, 2] (some ⟨w2.heap.size, 0, none⟩) 2 [172, 2] true _ (Kd.C_alloc HC2.out _) hc2 (C_new rfl (by decide)) (by decide) (by decide +kernel)).mono ?_
  rintro en w3 ⟨rfl, hd3⟩
  have HB3 := Aside0.mk (below_step (below_alloc HB2.out _) hd3.below)
  clear hd3 HB2 HC2 hc2
  go_wp2_with fail
  refine (wire_Crc.calls 200 (some ⟨w3.heap.size, 0, none⟩) 9 [49, 50, 51, 52, 53, 54, 55, 56, 57] 3421780262 _ (C_block (alloc_new _ _) rfl (by decide)) (by decide) (by decide +kernel)).mono ?_
  rintro en w4 ⟨rfl, hd4⟩
  have HB4 := Aside0.mk (below_step (below_alloc HB3.out _) hd4.below)
  clear hd4 HB3
  go_wp2_with fail
  refine (wire_Four.calls 258 [0, 0, 1, 2] _ (by decide +kernel)).mono ?_
  rintro en w5 ⟨v5, rfl, hr5, hb5⟩
  obtain ⟨A5, c5, rfl, hc5, hC5⟩ := Kd.R_reads hr5
  have HC5 := Aside0.mk hC5
  have HB5 := Aside0.mk (below_step HB4.out hb5)
  clear hr5 hb5 hC5 HB4
  go_wp2_with fail
  refine (tikref_Bytes.calls A5 c5 [0, 0, 1, 2] (some ⟨w5.heap.size, 0, none⟩) 4 [0, 0, 1, 2] true _ (Kd.C_alloc HC5.out _) hc5 (C_new rfl (by decide)) (by decide) (by decide +kernel)).mono ?_
  rintro en w6 ⟨rfl, hd6⟩
  have HB6 := Aside0.mk (below_step (below_alloc HB5.out _) hd6.below)
  clear hd6 HB5 HC5 hc5
  go_wp2_with fail
  go_ret
  exact ⟨rfl, HB6.out⟩
end Go.Proofs.Ytabljieejnhefaa.Hand
namespace Go.Proofs.Ytabljieejnhefaa.Hand
open Go.RowKit Go.Proofs.YtabljieejnhefaaW.PrintWords Go.Proofs.YtabljieejnhefaaW.PrintLast Go.Proofs.YtabljieejnhefaaW.PrintMore Go.Proofs.Ytabljieejnhefaa.PA
theorem andNot128 (c : Int) (h0 : 0 ≤ c) (h1 : c < 256) : Go.bits .andNot .u8 c 128 = c % 128 := by
  rw [u8_andNot c 128 h0 h1 (by omega) (by omega)]
  rw [show (255 - (128 : Int).toNat) = 2 ^ 7 - 1 from rfl, Nat.and_two_pow_sub_one_eq_mod]
  omega
theorem and127 (c : Int) (h0 : 0 ≤ c) (h1 : c < 18446744073709551616) : Go.bits .and .u64 c 127 = c % 128 := by
  rw [u64_and c 127 h0 h1 (by omega) (by omega)]
  rw [show ((127 : Int).toNat) = 2 ^ 7 - 1 from rfl, Nat.and_two_pow_sub_one_eq_mod]
  omega
theorem or_high (n m s : Nat) (hn : n < 2 ^ s) : n ||| (m * 2 ^ s) = n + m * 2 ^ s := by
  have := Nat.shiftLeft_add_eq_or_of_lt hn m
  rw [Nat.shiftLeft_eq] at this
  rw [Nat.or_comm, ← this, Nat.add_comm]
theorem u8_or128 (a : Int) (h0 : 0 ≤ a) : Go.bits .or .u8 (a % 256) 128 = a % 128 + 128 := by
  rw [u8_or (a % 256) 128 (by omega) (by omega) (by omega) (by omega)]
  have h : (a % 256).toNat ||| 128 = (a % 256).toNat % 128 + 128 := by
    have h1 : (a % 256).toNat < 256 := by omega
    generalize (a % 256).toNat = x at *
    have : ∀ y : Fin 256, y.val ||| 128 = y.val % 128 + 128 := by decide +kernel
    exact this ⟨x, h1⟩
  have h2 : (128 : Int).toNat = 128 := rfl
  rw [h2, h]
  omega
theorem u64_or128 (a : Int) (h0 : 0 ≤ a) (h1 : a < 18446744073709551616) : Go.bits .or .u64 (Go.bits .and .u64 a 127) 128 % 256 = a % 128 + 128 := by
  rw [and127 a h0 h1, u64_or (a % 128) 128 (by omega) (by omega) (by omega) (by omega)]
  have h2 : (128 : Int).toNat = 1 * 2 ^ 7 := rfl
  rw [h2, or_high _ 1 7 (by omega)]
  omega
theorem vbound (n c : Int) (i : Nat) (hn : n < 2 ^ (7 * i)) (hc0 : 0 ≤ c) (hc : c < 128) (hi : i ≤ 9) (h9 : i = 9 → c ≤ 1) : c * 2 ^ (7 * i) < 18446744073709551616 ∧ n + c * 2 ^ (7 * i) < 18446744073709551616 ∧ 0 ≤ c * 2 ^ (7 * i) := by
  have : i = 0 ∨ i = 1 ∨ i = 2 ∨ i = 3 ∨ i = 4 ∨ i = 5 ∨ i = 6 ∨ i = 7 ∨ i = 8 ∨ i = 9 := by omega
  rcases this with rfl | rfl | rfl | rfl | rfl | rfl | rfl | rfl | rfl | rfl
  all_goals
    first | (have := h9 rfl) | skip
    simp only [Nat.reduceMul, Int.reducePow] at hn ⊢
    omega
theorem vstep_eq (n c : Int) (i : Nat) (hn0 : 0 ≤ n) (hn : n < 2 ^ (7 * i)) (hc0 : 0 ≤ c) (hc : c < 256) (hi : i ≤ 9) (h9 : i = 9 → c ≤ 1) : vstep n c i = n + (c % 128) * 2 ^ (7 * i) := by
  unfold vstep
  rw [andNot128 c hc0 hc]
  have hb := vbound n (c % 128) i hn (by omega) (by omega) hi (fun h => by have := h9 h; omega)
  have hd : 0 ≤ c % 128 ∧ c % 128 ≤ 18446744073709551615 := by omega
  clear hc0 hc h9
  generalize c % 128 = d at *
  rw [IntWalk.u64_in d hd]
  have hp : (2 : Int) ^ (7 * i) = ((2 ^ (7 * i) : Nat) : Int) := by simp
  rw [hp] at hn hb ⊢
  generalize hq : 2 ^ (7 * i) = q at *
  have e1 : (d * (q : Int)).toNat = d.toNat * q := by rw [Int.toNat_mul hd.1 (Int.natCast_nonneg _), Int.toNat_natCast]
  have e2 := or_high n.toNat d.toNat (7 * i)
  rw [hq] at e2
  have e3 := e2 (by omega)
  have e4 : ((d.toNat * q : Nat) : Int) = d * q := by rw [← e1]; exact Int.toNat_of_nonneg hb.2.2
  generalize d * (q : Int) = m at *
  rw [IntWalk.u64_in m (by omega), u64_or n m hn0 (by omega) (by omega) (by omega), e1, e3, Int.natCast_add, e4]
  omega
end Go.Proofs.Ytabljieejnhefaa.Hand
namespace Go.Proofs.Ytabljieejnhefaa.Hand
open Go.RowKit Go.Proofs.YtabljieejnhefaaW.PrintWords Go.Proofs.YtabljieejnhefaaW.PrintLast Go.Proofs.YtabljieejnhefaaW.PrintMore Go.Proofs.Ytabljieejnhefaa.PA
theorem numL_succ (l : List Int) (d i : Nat) (n at_ c : Int) (hc : rd l at_ = c) : numL l (d + 1) i n at_ = if at_ = l.length then .error 3 else if (i = 9 ∧ c > 1) ∨ (c = 0 ∧ 0 < i) then .error 2 else
    if c < 128 then .ok (vstep n c i, at_ + 1) else numL l d (i + 1) (vstep n c i) (at_ + 1) := by subst hc; rfl
end Go.Proofs.Ytabljieejnhefaa.Hand
namespace Go.Proofs.Ytabljieejnhefaa.Hand
open Go.RowKit Go.Proofs.YtabljieejnhefaaW.PrintWords Go.Proofs.YtabljieejnhefaaW.PrintLast Go.Proofs.YtabljieejnhefaaW.PrintMore Go.Proofs.Ytabljieejnhefaa.PA
def varL : Nat → Int → List Int
  | 0, a => [a % 256]
  | d + 1, a => if a ≥ 128 then (a % 128 + 128) :: varL d (a / 128) else [a % 256]
theorem var_l0 : ∀ (d k : Nat) (a : Int) (x : List Int), 0 ≤ a → a < 18446744073709551616 → a < 128 * 128 ^ d → x.length + d < 140737488355328 → wire_Var.l0 (k + d + 1) a x = some (x ++ varL d a) ∧ tikref2_Var.l0 (k + d + 1) a x = some (x ++ varL d a) := by
  intro d
  induction d with
  | zero =>
    intro k a x h0 h1 h2 hl
    have q1 : ¬ a ≥ 128 := by omega
    have q2 : ¬ a > 127 := by omega
    have q3 : x.length < 140737488355328 := by omega
    constructor
    · rw [wire_Var.l0, if_neg q1, if_pos q3]; rfl
    · rw [tikref2_Var.l0, if_neg q2, if_pos q3]; rfl
  | succ d ih =>
    intro k a x h0 h1 h2 hl
    have q3 : x.length < 140737488355328 := by omega
    by_cases q1 : a ≥ 128
    · have q2 : a > 127 := by omega
      have h3 : a / 128 < 128 * 128 ^ d := by
        rw [Int.pow_succ] at h2
        omega
      have e1 : varL (d + 1) a = (a % 128 + 128) :: varL d (a / 128) := if_pos q1
      have := ih k (a / 128) (x ++ [a % 128 + 128]) (by omega) (by omega) h3 (by simp; omega)
      rw [show x ++ [a % 128 + 128] ++ varL d (a / 128) = x ++ varL (d + 1) a by rw [e1]; simp] at this
      rw [show k + (d + 1) + 1 = (k + d + 1) + 1 by omega]
      constructor
      · rw [wire_Var.l0, if_pos q1, if_pos q3, u8_or128 a h0]; exact this.1
      · rw [tikref2_Var.l0, if_pos q2, if_pos q3, u64_or128 a h0 h1]; exact this.2
    · have q2 : ¬ a > 127 := by omega
      have e1 : varL (d + 1) a = [a % 256] := if_neg q1
      rw [show k + (d + 1) + 1 = (k + d + 1) + 1 by omega, e1]
      constructor
      · rw [wire_Var.l0, if_neg q1, if_pos q3]
      · rw [tikref2_Var.l0, if_neg q2, if_pos q3]
theorem wireVar_any (k : Nat) (hk : 10 ≤ k) (a : Int) (h0 : 0 ≤ a) (h1 : a < 18446744073709551616) : wire_Var.f k a = some (varL 9 a) := by
  obtain ⟨k, rfl⟩ : ∃ m, k = m + 9 + 1 := ⟨k - 10, by omega⟩
  exact (var_l0 9 k a [] h0 h1 (by simp only [Int.reducePow, Int.reduceMul]; omega) (by simp)).1
end Go.Proofs.Ytabljieejnhefaa.Hand
namespace Go.Proofs.Ytabljieejnhefaa.Hand
open Go.RowKit Go.Proofs.YtabljieejnhefaaW.PrintWords Go.Proofs.YtabljieejnhefaaW.PrintLast
def rawM (l : List Int) (at_ n : Int) : Except Int Int := if n < 0 then .error 1 else rawL l at_ n
theorem rawM_nz {l : List Int} {p n x : Int} (h : rawM l p n = .error x) : (x != 0) = true := by
  unfold rawM rawL at h
  split at h
  · injection h with h; subst h; rfl
  · split at h
    · injection h with h; subst h; rfl
    · cases h
set_option maxHeartbeats 1000000 in
theorem raw1_any {w : World} {F : Nat → Prop} {g pr pn : Nat} {l : List Int} {at_ e n : Int} (hI : IsRd w F g l at_ e) (h0 : 0 ≤ at_) (h1 : at_ ≤ l.length) (hl : l.length < 140737488355328) (hF : ∀ k, F k → k < w.heap.size)
    (hr : w.heap[pr]? = some (.cells #[.pointer (some ⟨g, 0, none⟩)] 38 (0, 0))) (hm : w.heap[pn]? = some (.cells #[.int .i64 n] 3 (0, 0))) (hb : n ≤ 9223372036854775807) :
    Calls Try.prog 38 #[.pointer (some ⟨pn, 0, none⟩), .pointer (some ⟨pr, 0, none⟩)] w (RdPost (BytesV ((l.drop at_.toNat).take n.toNat)) w.heap.size F g l e w (rawM l at_ n)) := by
  have cr := blk_cell hr 0
  have cm := blk_cell hm 0
  obtain ⟨l', hl'⟩ : ∃ l', (l.drop at_.toNat).take n.toNat = l' := ⟨_, rfl⟩
  rw [hl']
  by_cases hn : n < 0
  · have hr : rawM l at_ n = .error 1 := if_pos hn
    rw [hr]
    have HI := Aside0.mk hI
    clear hI hr hm hl'
    go_enter Try.func38, Try.ntmps38
    go_wp2_with fail
    exact ⟨rfl, rfl, ⟨_, HI.out⟩, Mu.refl _ _⟩
  · have hr : rawM l at_ n = rawL l at_ n := if_neg hn
    rw [hr]
    have h := raw_any (n := n) hI h0 h1 (by omega) hl hF
    rw [hl'] at h
    have H := Aside0.mk h
    have hwn : IntKind.u64.wrap n = n := IntWalk.u64_in _ (by omega)
    have hn' : 0 ≤ n := by omega
    clear hI hr hm h hl' hn
    obtain ⟨R, hR⟩ : ∃ R, rawL l at_ n = R := ⟨_, rfl⟩
    rw [hR] at H ⊢
    clear hR
    go_enter Try.func38, Try.ntmps38
    go_wp2_with fail
    refine H.out.mono ?_
    clear H
    cases R with
    | error x =>
      rintro en w1 ⟨rfl, h⟩
      exact ⟨rfl, rfl, h⟩
    | ok q =>
      rintro en w1 ⟨⟨v, rfl, hv⟩, h⟩
      obtain ⟨A, c, rfl, _⟩ := Kd.R_reads hv
      have HV := Aside0.mk (And.intro hv h)
      clear hv h
      go_wp2_with fail
      go_ret
      exact ⟨⟨_, rfl, HV.out.1⟩, HV.out.2⟩
def rdRaw (l : List Int) (at_ e n : Int) : List Int × Int × Int := if e ≠ 0 then ([], at_, e) else match rawM l at_ n with
  | .ok q => ((l.drop at_.toNat).take n.toNat, q, 0)
  | .error x => ([], at_, x)
def RdBytes (F : Nat → Prop) (g : Nat) (l : List Int) (w : World) (r : List Int × Int × Int) (en : Ending) (w' : World) : Prop :=
  (∃ v, en = .returned v ∧ BytesV r.1 w.heap.size w' v) ∧ IsRd w' F g l r.2.1 r.2.2 ∧ 0 ≤ r.2.1 ∧ r.2.1 ≤ l.length ∧ Mu (· = g) w w'
set_option maxHeartbeats 1000000 in
theorem Raw_any {w : World} {F : Nat → Prop} {g : Nat} {l : List Int} {at_ e n : Int} (hI : IsRd w F g l at_ e) (hF : ∀ k, F k → k < w.heap.size) (h0 : 0 ≤ at_) (h1 : at_ ≤ l.length) (hl : l.length < 140737488355328) (hb : n ≤ 9223372036854775807) :
    Calls Try.prog 25 #[.pointer (some ⟨g, 0, none⟩), .int .i64 n] w (RdBytes F g l w (rdRaw l at_ e n)) := by
  have HI := Aside0.mk hI
  have HF := Aside0.mk hF
  clear hI hF
  obtain ⟨W, hW, b0, b1, hWs, hWb⟩ := two_new w (.cells #[.pointer (some ⟨g, 0, none⟩)] 38) (.cells #[.int .i64 n] 3)
  have HW := Aside0.mk hW
  have B0 := Aside0.mk b0
  have B1 := Aside0.mk b1
  have HWs := Aside0.mk hWs
  have HWb := Aside0.mk hWb
  have hmf : ∀ (fn : Fn) (first cap : Array Value) (w : World), (Instr.makeFunc fn first cap).run Try.prog w = .ok (.func fn first cap) w := fun _ _ _ _ => rfl
  clear hW b0 b1 hWs hWb
  go_enter Try.func25, Try.ntmps25
  go_wp2_with fail
  rw [HW.out]
  have hIW : IsRd W F g l at_ e := HI.out.mu (Mu.of_below HWb.out (fun _ => False)) (fun _ _ h => h)
  refine (triesdB (bytesV_stays ((l.drop at_.toNat).take n.toNat)) (fun b w v h => by obtain ⟨A, c, e, _⟩ := Kd.R_reads h; exact ⟨_, _, _, e⟩) (f := 38) (first := #[]) (cap := #[.pointer (some ⟨w.heap.size + 1, 0, none⟩), .pointer (some ⟨w.heap.size, 0, none⟩)]) (args := #[.pointer (some ⟨w.heap.size + 1, 0, none⟩), .pointer (some ⟨w.heap.size, 0, none⟩)]) rfl (fun w => by kernel_rfl) (rawM l at_ n) (fun x hx => rawM_nz hx) hIW (fun k hk => by rw [HWs.out]; have := HF.out k hk; omega)
    (fun he w1 hb1 => by
      subst he
      have hm1 := Mu.of_below hb1 (fun _ => False)
      exact raw1_any (hIW.mu hm1 (fun _ _ h => h)) h0 h1 hl (fun k hk => by have := HF.out k hk; have := hb1.size; have := HWs.out; omega) (hm1.heap B0.out (fun h => h)) (hm1.heap B1.out (fun h => h)) hb)).mono ?_
  rintro en w2 ⟨hm, hcase⟩
  have hm2 : Mu (· = g) w w2 := (Mu.of_below HWb.out _).trans hm
  have fin : ∃ a n' c, en = .returned (.slice a n' c) ∧ RdBytes F g l w (rdRaw l at_ e n) (.returned (.slice a n' c)) w2 := by
    rcases hcase with ⟨h, rfl, hI2⟩ | ⟨rfl, p', hp', ⟨v, rfl, hres⟩, hI2, q0, q1⟩ | ⟨rfl, x, hx, rfl, hI2⟩
    · refine ⟨_, _, _, rfl, ?_⟩
      unfold rdRaw
      rw [if_pos h]
      exact ⟨⟨_, rfl, Kd.R_nil _ _ _ _ _⟩, hI2, h0, h1, hm2⟩
    · obtain ⟨A, c, rfl, _⟩ := Kd.R_reads hres
      refine ⟨_, _, _, rfl, ?_⟩
      unfold rdRaw
      rw [if_neg (by simp), hp']
      exact ⟨⟨_, rfl, Kd.R_lower hres (by rw [HWs.out]; omega)⟩, hI2, q0, q1, hm2⟩
    · refine ⟨_, _, _, rfl, ?_⟩
      unfold rdRaw
      rw [if_neg (by simp), hx]
      exact ⟨⟨_, rfl, Kd.R_nil _ _ _ _ _⟩, hI2, h0, h1, hm2⟩
  obtain ⟨a', n', c', rfl, hfin⟩ := fin
  have HFin := Aside0.mk hfin
  clear hfin hcase hm hm2 hIW
  go_wp2_with fail
  go_ret
  exact HFin.out
set_option maxHeartbeats 1000000 in
theorem End_any {w : World} {F : Nat → Prop} {g : Nat} {l : List Int} {at_ e : Int} (hI : IsRd w F g l at_ e) (h0 : 0 ≤ at_) (h1 : at_ ≤ l.length) :
    Calls Try.prog 22 #[.pointer (some ⟨g, 0, none⟩)] w fun en w' => en = .returned (.int .i64 (if e = 0 ∧ at_ < l.length then 4 else e)) ∧ ∃ n, w' = w.drewN n := by
  have HI := Aside0.mk hI
  obtain ⟨A, c, i1, i2, i3, i4, i5⟩ := hI
  have c2 := blk_cell i2 2
  clear i1 i2 i4 i5
  by_cases he : e = 0
  · have e1 : (e == 0) = true := beq_iff_eq.2 he
    have H0 := Aside0.mk he
    clear he
    by_cases hlt : at_ < l.length
    · have e2 : decide (0 < (l.length : Int) - at_) = true := decide_eq_true (by omega)
      rw [if_pos ⟨H0.out, hlt⟩]
      go_enter Try.func22, Try.ntmps22
      go_wp2_with (first | (go_at_call 29; refine (left_any HI.out h0 h1).mono ?_; rintro en w' ⟨rfl, n', rfl⟩))
      go_ret
      exact ⟨rfl, _, rfl⟩
    · have e2 : decide (0 < (l.length : Int) - at_) = false := decide_eq_false (by omega)
      rw [if_neg (fun h => hlt h.2)]
      go_enter Try.func22, Try.ntmps22
      go_wp2_with (first | (go_at_call 29; refine (left_any HI.out h0 h1).mono ?_; rintro en w' ⟨rfl, n', rfl⟩))
      go_ret
      exact ⟨rfl, _, rfl⟩
  · have e1 : (e == 0) = false := beq_eq_false_iff_ne.2 he
    rw [if_neg (fun h => he h.1)]
    clear he
    go_enter Try.func22, Try.ntmps22
    go_wp2_with fail
    go_ret
    exact ⟨rfl, 0, rfl⟩
set_option maxHeartbeats 1000000 in
theorem NewReader_any {w : World} {A : Option Addr} {c : Nat} {l : List Int} (hC : Kd.C (Kd.int .u8) w A l.length l) (hc : l.length ≤ c) (hl : l.length < 140737488355328) :
    Calls Try.prog 20 #[.slice A l.length c] w fun en w' => ∃ g, en = .returned (.pointer (some ⟨g, 0, none⟩)) ∧ w.heap.size ≤ g ∧ IsRd w' (fun k => w.heap.size ≤ k ∧ k < w'.heap.size) g l 0 0 ∧ Below w.heap.size w w' := by
  have HC := Aside0.mk (clone_any hC hc hl)
  clear hC
  go_enter Try.func20, Try.ntmps20
  go_wp2_with fail
  refine HC.out.mono ?_
  rintro en w1 ⟨v, rfl, hr, hb⟩
  obtain ⟨A', c', rfl, hc', hC'⟩ := Kd.R_reads hr
  have HR := Aside0.mk hr
  have HB := Aside0.mk hb
  have HC' := Aside0.mk hC'
  clear hr hb hC' HC
  go_wp2_with fail
  go_ret
  have hsz : (w1.alloc (Obj.cells #[.slice A' l.length c', .int .i64 0, .int .i64 0] 57)).heap.size = w1.heap.size + 1 := by simp
  refine ⟨_, rfl, HB.out.size, ⟨A', c', ⟨HB.out.size, by rw [hsz]; omega⟩, alloc_new _ _, hc', Kd.C_alloc HC'.out _, fun ad ea hn => ?_⟩, below_alloc HB.out _⟩
  subst ea
  have hbd := Kd.R_bound HR.out
  have h1 := hbd.1 ad.block (by
    obtain ⟨inner, ho⟩ := Kd.R_own HR.out
    rcases ho.2 with ⟨h, _⟩ | ⟨g, cap, cur, h, hg, hh, r⟩
    · simp at h
    · simp at h
      obtain ⟨rfl, _⟩ := h
      simp [Value.ownBlock])
  exact ⟨⟨h1.2.1, by rw [hsz]; omega⟩, by omega⟩
end Go.Proofs.Ytabljieejnhefaa.Hand
namespace Go.Proofs.Ytabljieejnhefaa.Hand
open Go.RowKit Go.Proofs.YtabljieejnhefaaW.PrintWords Go.Proofs.YtabljieejnhefaaW.PrintLast
def StrV (s : ByteArray) (_ : Nat) (_ : World) (v : Value) : Prop := v = .string s
theorem strV_stays (s : ByteArray) : Stays (StrV s) where
  mu := fun h _ => h
  lower := fun h _ => h
theorem string_any {w : World} {b : Nat} {l : List Int} {v : Value} (h : BytesV l b w v) : ∃ A c, v = .slice A l.length c ∧ Kd.C (Kd.int .u8) w A l.length l := by
  obtain ⟨A, c, e, _, hC⟩ := Kd.R_reads h
  exact ⟨A, c, e, hC⟩
def textL (l : List Int) (at_ most : Int) : Except Int (Int × Int) :=
  match upL l at_ (if most < 0 then 0 else most) with
  | .ok (n, p) => match rawL l p n with
    | .ok q => .ok (n, q)
    | .error x => .error x
  | .error x => .error x
theorem cell_mu {S : Nat → Prop} {w w' : World} (h : Mu S w w') {p : Addr} {v : Value} (hc : w.cell? p = some v) (hS : ¬ S p.block) : w'.cell? p = some v :=
  (World.cell?_of_block (w := w) (h.block p.block (World.block_lt_of_cell? _ _ hc) hS)).trans hc
def wpL (P : Program) (ops : Array Oper) (Q : Exit → Act → World → Prop) : List Nat → Act → World → Prop
  | [], a, w => Q .normal a w
  | i :: rest, a, w => match ops[i]? with
    | none => wpL P ops Q rest a w
    | some o => if Region.wanted o (yielded ops a.tmps) then o.wp P a w (wpL P ops Q rest) Q else wpL P ops Q rest (a.put o.dst undef) w
theorem wpL_sound {P : Program} {ops : Array Oper} {Q : Exit → Act → World → Prop} : ∀ (l : List Nat) (a : Act) (w : World), wpL P ops Q l a w → wpOps P ops Q l a w
  | [], a, w, h => h
  | i :: rest, a, w, h => by
    rw [wpOps_cons]
    unfold wpOp
    simp only [wpL] at h
    split
    · rename_i ho
      rw [ho] at h
      exact wpL_sound rest a w h
    · rename_i o ho
      rw [ho] at h
      simp only [] at h
      split
      · rename_i hw
        rw [if_pos hw] at h
        exact .inl (Oper.wp_mono (wpL_sound rest) h)
      · rename_i hw
        rw [if_neg hw] at h
        exact wpL_sound rest _ w h
theorem wp_region_orders {P : Program} {Q : Exit → Act → World → Prop} {a : Act} {w : World} {id : Nat} {ops : Array Oper} (hm : P.follows .mixedOrders = true)
    {L : List (List Nat)} (hL : allOrders .any ops ops.size (Array.replicate ops.size false) = L) (h : ∀ l ∈ L, wpL P ops Q l a w.drew) : (Code.region id ops true).wp P Q a w :=
  wp_region_draw fun t => by
    have hl := mem_allOrders .any ops ops.size t (Array.replicate ops.size false)
    rw [hL] at hl
    simp only [Region.schedule, hm, Bool.true_or, if_true]
    exact wpL_sound _ a _ (h _ hl)
def textOrders : List (List Nat) := [[0, 1, 2, 3, 4, 5, 6, 7, 8], [0, 2, 1, 3, 4, 5, 6, 7, 8], [0, 2, 3, 1, 4, 5, 6, 7, 8], [0, 2, 3, 4, 1, 5, 6, 7, 8], [1, 0, 2, 3, 4, 5, 6, 7, 8], [1, 2, 0, 3, 4, 5, 6, 7, 8], [1, 2, 3, 0, 4, 5, 6, 7, 8], [1, 2, 3, 4, 0, 5, 6, 7, 8], [1, 2, 3, 4, 5, 0, 6, 7, 8], [2, 0, 1, 3, 4, 5, 6, 7, 8], [2, 0, 3, 1, 4, 5, 6, 7, 8], [2, 0, 3, 4, 1, 5, 6, 7, 8], [2, 1, 0, 3, 4, 5, 6, 7, 8], [2, 1, 3, 0, 4, 5, 6, 7, 8], [2, 1, 3, 4, 0, 5, 6, 7, 8], [2, 1, 3, 4, 5, 0, 6, 7, 8], [2, 3, 0, 1, 4, 5, 6, 7, 8], [2, 3, 0, 4, 1, 5, 6, 7, 8], [2, 3, 1, 0, 4, 5, 6, 7, 8], [2, 3, 1, 4, 0, 5, 6, 7, 8], [2, 3, 1, 4, 5, 0, 6, 7, 8], [2, 3, 4, 0, 1, 5, 6, 7, 8], [2, 3, 4, 1, 0, 5, 6, 7, 8], [2, 3, 4, 1, 5, 0, 6, 7, 8]]
set_option maxHeartbeats 2000000 in
theorem text1_up {w : World} {F : Nat → Prop} {g pr pm : Nat} {l : List Int} {at_ e most M n p x : Int} (hI : IsRd w F g l at_ e) (h0 : 0 ≤ at_) (h1 : at_ ≤ l.length) (hl : l.length < 140737488355328) (hF : ∀ k, F k → k < w.heap.size)
    (hr : w.heap[pr]? = some (.cells #[.pointer (some ⟨g, 0, none⟩)] 38 (0, 0))) (hm : w.heap[pm]? = some (.cells #[.int .i64 most] 3 (0, 0))) (nr : pr ≠ g) (nm : pm ≠ g)
    (hM : (if most < 0 then 0 else most) = M) (hwm : IntKind.u64.wrap M = M)
    (hu : upL l at_ M = .error x) {Res : Nat → World → Value → Prop} {b : Nat} :
    Calls Try.prog 41 #[.pointer (some ⟨pr, 0, none⟩), .pointer (some ⟨pm, 0, none⟩)] w (RdPost Res b F g l e w (.error x)) := by
  have cr := blk_cell hr 0
  have cm := blk_cell hm 0
  have cr' : w.cell? ⟨pr, 0, none⟩ = some (.pointer (some ⟨g, 0, none⟩)) := cr
  have cm' : w.cell? ⟨pm, 0, none⟩ = some (.int .i64 most) := cm
  have CR := Aside0.mk cr'
  have CM := Aside0.mk cm'
  have HI := Aside0.mk hI
  have HF := Aside0.mk hF
  have HU := Aside0.mk hu
  clear hI hF hr hm hu cr' cm'
  go_enter Try.func41, Try.ntmps41
  go_wp2_with fail
  refine wp_region_orders (L := textOrders) (by kernel_rfl) (by kernel_rfl) ?_
  have hb : Calls Try.prog 36 #[.pointer (some ⟨g, 0, none⟩), .int .u64 M] w.drew (NumPost F g l e w.drew (Value.int .u64) (.error x)) := by
    rw [← HU.out]; exact upTo_any (HI.out.mu ((Mu.refl (fun _ => False) w).drew) (fun _ _ h => h)) h0 h1
  intro l hl
  simp only [textOrders, List.mem_cons, List.not_mem_nil, or_false] at hl
  rcases hl with rfl | rfl | rfl | rfl | rfl | rfl | rfl | rfl | rfl | rfl | rfl | rfl | rfl | rfl | rfl | rfl | rfl | rfl | rfl | rfl | rfl | rfl | rfl | rfl
  all_goals
    simp [wpL, Oper.wp, go_sem, cr, cm, hM, hwm]
    refine hb.mono ?_
    rintro en w1 ⟨rfl, hI1, hm1⟩
    exact ⟨rfl, rfl, hI1, Mu.trans ((Mu.refl (· = g) w).drew) hm1⟩
set_option maxHeartbeats 2000000 in
theorem text1_raw {w : World} {F : Nat → Prop} {g pr pm : Nat} {l : List Int} {at_ e most M n p x : Int} (hI : IsRd w F g l at_ e) (h0 : 0 ≤ at_) (h1 : at_ ≤ l.length) (hl : l.length < 140737488355328) (hF : ∀ k, F k → k < w.heap.size)
    (hr : w.heap[pr]? = some (.cells #[.pointer (some ⟨g, 0, none⟩)] 38 (0, 0))) (hm : w.heap[pm]? = some (.cells #[.int .i64 most] 3 (0, 0))) (nr : pr ≠ g) (nm : pm ≠ g)
    (hM : (if most < 0 then 0 else most) = M) (hwm : IntKind.u64.wrap M = M)
    (hu : upL l at_ M = .ok (n, p)) (hn : 0 ≤ n) (hq : rawL l p n = .error x) {Res : Nat → World → Value → Prop} {b : Nat} :
    Calls Try.prog 41 #[.pointer (some ⟨pr, 0, none⟩), .pointer (some ⟨pm, 0, none⟩)] w (RdPost Res b F g l e w (.error x)) := by
  have cr := blk_cell hr 0
  have cm := blk_cell hm 0
  have cr' : w.cell? ⟨pr, 0, none⟩ = some (.pointer (some ⟨g, 0, none⟩)) := cr
  have cm' : w.cell? ⟨pm, 0, none⟩ = some (.int .i64 most) := cm
  have CR := Aside0.mk cr'
  have CM := Aside0.mk cm'
  have HI := Aside0.mk hI
  have HF := Aside0.mk hF
  have HU := Aside0.mk hu
  have HQ := Aside0.mk hq
  clear hq
  clear hI hF hr hm hu cr' cm'
  go_enter Try.func41, Try.ntmps41
  go_wp2_with fail
  refine wp_region_orders (L := textOrders) (by kernel_rfl) (by kernel_rfl) ?_
  have hb : Calls Try.prog 36 #[.pointer (some ⟨g, 0, none⟩), .int .u64 M] w.drew (NumPost F g l e w.drew (Value.int .u64) (.ok (n, p))) := by
    rw [← HU.out]; exact upTo_any (HI.out.mu ((Mu.refl (fun _ => False) w).drew) (fun _ _ h => h)) h0 h1
  intro lo hlo
  simp only [textOrders, List.mem_cons, List.not_mem_nil, or_false] at hlo
  rcases hlo with rfl | rfl | rfl | rfl | rfl | rfl | rfl | rfl | rfl | rfl | rfl | rfl | rfl | rfl | rfl | rfl | rfl | rfl | rfl | rfl | rfl | rfl | rfl | rfl
  all_goals
    simp [wpL, Oper.wp, go_sem, cr, cm, hM, hwm]
    refine hb.mono ?_
    rintro en w1 ⟨rfl, hI1, hp1, hp0, hm1⟩
    have hM1 : Mu (· = g) w w1 := Mu.trans ((Mu.refl (· = g) w).drew) hm1
    have cr1 := cell_mu hM1 CR.out nr
    have cm1 := cell_mu hM1 CM.out nm
    simp [wpL, Oper.wp, go_sem, cr1, cm1, hM, hwm]
    have hr2 := raw_any (n := n) hI1 hp0 hp1 hn hl (fun k hk => Nat.lt_of_lt_of_le (HF.out k hk) hM1.size)
    rw [HQ.out] at hr2
    refine hr2.mono ?_
    rintro en w2 ⟨rfl, hI2, hm2⟩
    exact ⟨rfl, rfl, hI2, hM1.trans hm2⟩
set_option maxHeartbeats 2000000 in
theorem text1_ok {w : World} {F : Nat → Prop} {g pr pm : Nat} {l : List Int} {at_ e most M n p q : Int} (hI : IsRd w F g l at_ e) (h0 : 0 ≤ at_) (h1 : at_ ≤ l.length) (hl : l.length < 140737488355328) (hF : ∀ k, F k → k < w.heap.size)
    (hr : w.heap[pr]? = some (.cells #[.pointer (some ⟨g, 0, none⟩)] 38 (0, 0))) (hm : w.heap[pm]? = some (.cells #[.int .i64 most] 3 (0, 0))) (nr : pr ≠ g) (nm : pm ≠ g)
    (hM : (if most < 0 then 0 else most) = M) (hwm : IntKind.u64.wrap M = M)
    (hu : upL l at_ M = .ok (n, p)) (hn : 0 ≤ n) (hq : rawL l p n = .ok q) {l' : List Int} (hl' : (l.drop p.toNat).take n.toNat = l') :
    Calls Try.prog 41 #[.pointer (some ⟨pr, 0, none⟩), .pointer (some ⟨pm, 0, none⟩)] w (RdPost (StrV (strOfNums l')) w.heap.size F g l e w (.ok q)) := by
  have HL := Aside0.mk hl'
  clear hl'
  have cr := blk_cell hr 0
  have cm := blk_cell hm 0
  have cr' : w.cell? ⟨pr, 0, none⟩ = some (.pointer (some ⟨g, 0, none⟩)) := cr
  have cm' : w.cell? ⟨pm, 0, none⟩ = some (.int .i64 most) := cm
  have CR := Aside0.mk cr'
  have CM := Aside0.mk cm'
  have HI := Aside0.mk hI
  have HF := Aside0.mk hF
  have HU := Aside0.mk hu
  have HQ := Aside0.mk hq
  clear hI hF hr hm hu hq cr' cm'
  go_enter Try.func41, Try.ntmps41
  go_wp2_with fail
  refine wp_region_orders (L := textOrders) (by kernel_rfl) (by kernel_rfl) ?_
  have hb : Calls Try.prog 36 #[.pointer (some ⟨g, 0, none⟩), .int .u64 M] w.drew (NumPost F g l e w.drew (Value.int .u64) (.ok (n, p))) := by
    rw [← HU.out]; exact upTo_any (HI.out.mu ((Mu.refl (fun _ => False) w).drew) (fun _ _ h => h)) h0 h1
  intro lo hlo
  simp only [textOrders, List.mem_cons, List.not_mem_nil, or_false] at hlo
  rcases hlo with rfl | rfl | rfl | rfl | rfl | rfl | rfl | rfl | rfl | rfl | rfl | rfl | rfl | rfl | rfl | rfl | rfl | rfl | rfl | rfl | rfl | rfl | rfl | rfl
  all_goals
    simp [wpL, Oper.wp, go_sem, cr, cm, hM, hwm]
    refine hb.mono ?_
    rintro en w1 ⟨rfl, hI1, hp1, hp0, hm1⟩
    have hM1 : Mu (· = g) w w1 := Mu.trans ((Mu.refl (· = g) w).drew) hm1
    have cr1 := cell_mu hM1 CR.out nr
    have cm1 := cell_mu hM1 CM.out nm
    simp [wpL, Oper.wp, go_sem, cr1, cm1, hM, hwm]
    have hr2 := raw_any (n := n) hI1 hp0 hp1 hn hl (fun k hk => Nat.lt_of_lt_of_le (HF.out k hk) hM1.size)
    rw [HQ.out, HL.out] at hr2
    refine hr2.mono ?_
    rintro en w2 ⟨⟨v, rfl, hv⟩, hI2, hq0, hq1, hm2⟩
    obtain ⟨A, c, rfl, hC⟩ := string_any hv
    have hcv := Kd.C_string (P := Try.prog) (A := A) (c := c) Try.underlying23 Try.underlying5 Try.underlying9 hC
    simp [wpL, Oper.wp, go_sem, hcv]
    have HE := Aside0.mk (And.intro hI2 (And.intro hq0 (And.intro hq1 (hM1.trans hm2))))
    clear hI2 hm2 hM1 hv hC hcv hI1 hm1 hr2 cr1 cm1 cr cm hb
    go_wp2_with fail
    go_ret
    exact ⟨⟨_, rfl, rfl⟩, HE.out⟩
end Go.Proofs.Ytabljieejnhefaa.Hand
namespace Go.Proofs.Ytabljieejnhefaa.Hand
open Go.RowKit Go.Proofs.YtabljieejnhefaaW.PrintWords Go.Proofs.YtabljieejnhefaaW.PrintLast
theorem rawL_nz {l : List Int} {p n x : Int} (h : rawL l p n = .error x) : (x != 0) = true := by
  unfold rawL at h
  split at h
  · injection h with h; subst h; rfl
  · cases h
theorem textL_nz {l : List Int} {p m x : Int} (h : textL l p m = .error x) : (x != 0) = true := by
  unfold textL at h
  split at h
  · split at h
    · cases h
    · next e => injection h with h; subst h; exact rawL_nz e
  · next e => injection h with h; subst h; exact upL_nz _ _ _ _ e
def textOf (l : List Int) (at_ most : Int) : ByteArray :=
  match upL l at_ (if most < 0 then 0 else most) with
  | .ok (n, p) => strOfNums ((l.drop p.toNat).take n.toNat)
  | .error _ => ⟨#[]⟩
def rdText (l : List Int) (at_ e most : Int) : ByteArray × Int × Int := if e ≠ 0 then (⟨#[]⟩, at_, e) else match textL l at_ most with
  | .ok (_, q) => (textOf l at_ most, q, 0)
  | .error x => (⟨#[]⟩, at_, x)
def RdStr (F : Nat → Prop) (g : Nat) (l : List Int) (w : World) (r : ByteArray × Int × Int) (en : Ending) (w' : World) : Prop :=
  en = .returned (.string r.1) ∧ IsRd w' F g l r.2.1 r.2.2 ∧ 0 ≤ r.2.1 ∧ r.2.1 ≤ l.length ∧ Mu (· = g) w w'
theorem bits_or_nn (x y : Int) : 0 ≤ Go.bits .or .u64 x y := (bounds_u64 (wf_bits .or .u64 x y)).1
theorem numL_nn (l : List Int) : ∀ (k i : Nat) (n p : Int) (m q : Int), 0 ≤ n → numL l k i n p = .ok (m, q) → 0 ≤ m
  | 0, i, n, p, m, q, hn, h => by simp only [numL] at h; cases h
  | k + 1, i, n, p, m, q, hn, h => by
    have hv : 0 ≤ vstep n (rd l p) i := by
      unfold vstep
      exact bits_or_nn _ _
    simp only [numL] at h
    split at h
    · cases h
    · split at h
      · cases h
      · split at h
        · injection h with h; injection h with h1 h2; subst h1; exact hv
        · exact numL_nn l k _ _ _ m q hv h
theorem upL_nn (l : List Int) (p m : Int) {n q : Int} (h : upL l p m = .ok (n, q)) : 0 ≤ n := by
  unfold upL at h
  split at h
  · next e =>
    split at h
    · cases h
    · injection h with h; injection h with h1 h2; subst h1; exact numL_nn l _ _ _ _ _ _ (by omega) e
  · cases h
set_option maxHeartbeats 1000000 in
theorem text1_any {w : World} {F : Nat → Prop} {g pr pm : Nat} {l : List Int} {at_ e most : Int} (hI : IsRd w F g l at_ e) (h0 : 0 ≤ at_) (h1 : at_ ≤ l.length) (hl : l.length < 140737488355328) (hF : ∀ k, F k → k < w.heap.size)
    (hr : w.heap[pr]? = some (.cells #[.pointer (some ⟨g, 0, none⟩)] 38 (0, 0))) (hm : w.heap[pm]? = some (.cells #[.int .i64 most] 3 (0, 0))) (nr : pr ≠ g) (nm : pm ≠ g)
    (hb : most ≤ 9223372036854775807) :
    Calls Try.prog 41 #[.pointer (some ⟨pr, 0, none⟩), .pointer (some ⟨pm, 0, none⟩)] w (RdPost (StrV (textOf l at_ most)) w.heap.size F g l e w (posOf (textL l at_ most))) := by
  have hwm : IntKind.u64.wrap (if most < 0 then 0 else most) = (if most < 0 then 0 else most) := IntWalk.u64_in _ (by split <;> omega)
  cases hu : upL l at_ (if most < 0 then 0 else most) with
  | error x =>
    have ht : textL l at_ most = .error x := by unfold textL; rw [hu]
    rw [ht]
    exact text1_up (Res := StrV (textOf l at_ most)) (b := w.heap.size) (n := 0) (p := 0) hI h0 h1 hl hF hr hm nr nm rfl hwm hu
  | ok np =>
    obtain ⟨n, p⟩ := np
    have hn := upL_nn l _ _ hu
    have hto : textOf l at_ most = strOfNums ((l.drop p.toNat).take n.toNat) := by unfold textOf; rw [hu]
    cases hq : rawL l p n with
    | error x =>
      have ht : textL l at_ most = .error x := by unfold textL; rw [hu]; simp only []; rw [hq]
      rw [ht]
      exact text1_raw hI h0 h1 hl hF hr hm nr nm rfl hwm hu hn hq
    | ok q =>
      have ht : textL l at_ most = .ok (n, q) := by unfold textL; rw [hu]; simp only []; rw [hq]
      rw [ht, hto]
      exact text1_ok hI h0 h1 hl hF hr hm nr nm rfl hwm hu hn hq rfl
set_option maxHeartbeats 1000000 in
theorem Text_any {w : World} {F : Nat → Prop} {g : Nat} {l : List Int} {at_ e most : Int} (hI : IsRd w F g l at_ e) (hF : ∀ k, F k → k < w.heap.size) (h0 : 0 ≤ at_) (h1 : at_ ≤ l.length) (hl : l.length < 140737488355328) (hb : most ≤ 9223372036854775807) :
    Calls Try.prog 27 #[.pointer (some ⟨g, 0, none⟩), .int .i64 most] w (RdStr F g l w (rdText l at_ e most)) := by
  have HI := Aside0.mk hI
  have HF := Aside0.mk hF
  have hglt : g < w.heap.size := by obtain ⟨v, hv⟩ := hI.blk; exact heap_lt hv
  clear hI hF
  obtain ⟨W, hW, b0, b1, hWs, hWb⟩ := two_new w (.cells #[.pointer (some ⟨g, 0, none⟩)] 38) (.cells #[.int .i64 most] 3)
  have HW := Aside0.mk hW
  have B0 := Aside0.mk b0
  have B1 := Aside0.mk b1
  have HWs := Aside0.mk hWs
  have HWb := Aside0.mk hWb
  have hmf : ∀ (fn : Fn) (first cap : Array Value) (w : World), (Instr.makeFunc fn first cap).run Try.prog w = .ok (.func fn first cap) w := fun _ _ _ _ => rfl
  clear hW b0 b1 hWs hWb
  go_enter Try.func27, Try.ntmps27
  go_wp2_with fail
  rw [HW.out]
  have hIW : IsRd W F g l at_ e := HI.out.mu (Mu.of_below HWb.out (fun _ => False)) (fun _ _ h => h)
  refine (triesdS (strV_stays (textOf l at_ most)) (fun b w v h => ⟨_, h⟩) (f := 41) (first := #[]) (cap := #[.pointer (some ⟨w.heap.size, 0, none⟩), .pointer (some ⟨w.heap.size + 1, 0, none⟩)]) (args := #[.pointer (some ⟨w.heap.size, 0, none⟩), .pointer (some ⟨w.heap.size + 1, 0, none⟩)]) rfl (fun w => by kernel_rfl) (posOf (textL l at_ most)) (posOf_nz (fun x hx => textL_nz hx)) hIW (fun k hk => by rw [HWs.out]; have := HF.out k hk; omega)
    (fun he w1 hb1 => by
      subst he
      have hm1 := Mu.of_below hb1 (fun _ => False)
      exact text1_any (hIW.mu hm1 (fun _ _ h => h)) h0 h1 hl (fun k hk => by have := HF.out k hk; have := hb1.size; have := HWs.out; omega) (hm1.heap B0.out (fun h => h)) (hm1.heap B1.out (fun h => h)) (by omega) (by omega) hb)).mono ?_
  rintro en w2 ⟨hm, hcase⟩
  have hm2 : Mu (· = g) w w2 := (Mu.of_below HWb.out _).trans hm
  have fin : ∃ v, en = .returned (.string v) ∧ RdStr F g l w (rdText l at_ e most) (.returned (.string v)) w2 := by
    rcases hcase with ⟨h, rfl, hI2⟩ | ⟨rfl, p', hp', ⟨v, rfl, hres⟩, hI2, q0, q1⟩ | ⟨rfl, x, hx, rfl, hI2⟩
    · refine ⟨_, rfl, ?_⟩
      unfold rdText
      rw [if_pos h]
      exact ⟨rfl, hI2, h0, h1, hm2⟩
    · cases hu : textL l at_ most with
      | error x => rw [hu] at hp'; cases hp'
      | ok np =>
        obtain ⟨n, p⟩ := np
        rw [hu] at hp'
        obtain rfl : p = p' := by simpa [posOf] using hp'
        obtain rfl : v = .string (textOf l at_ most) := hres
        refine ⟨_, rfl, ?_⟩
        unfold rdText
        rw [if_neg (by simp), hu]
        exact ⟨rfl, hI2, q0, q1, hm2⟩
    · cases hu : textL l at_ most with
      | ok np => rw [hu] at hx; cases hx
      | error y =>
        rw [hu] at hx
        obtain rfl : y = x := by simpa [posOf] using hx
        refine ⟨_, rfl, ?_⟩
        unfold rdText
        rw [if_neg (by simp), hu]
        exact ⟨rfl, hI2, h0, h1, hm2⟩
  obtain ⟨v, rfl, hfin⟩ := fin
  have HFin := Aside0.mk hfin
  clear hfin hcase hm hm2 hIW
  go_wp2_with fail
  go_ret
  exact HFin.out
end Go.Proofs.Ytabljieejnhefaa.Hand
namespace Go.Proofs.Ytabljieejnhefaa.Hand
open Go.RowKit Go.Proofs.YtabljieejnhefaaW.PrintWords Go.Proofs.YtabljieejnhefaaW.PrintLast Go.Proofs.YtabljieejnhefaaW.PrintMore
def IsS57 (w0 W : World) (g : Nat) (f0 : List Int) (f1 : Int) (f2 : Int) : Prop :=
  ∃ F : Nat → Prop, IsRd W F g f0 f1 f2 ∧ (∀ k, F k → w0.heap.size ≤ k ∧ k < W.heap.size) ∧ 0 ≤ f1 ∧ f1 ≤ f0.length ∧ f0.length < 140737488355328
section
variable {w0 W W1 : World} {g : Nat} {f0 : List Int} {f1 f2 : Int}
theorem IsRd.own {F : Nat → Prop} {w : World} {l : List Int} {at_ e : Int} (h : IsRd w F g l at_ e) : F g := by
  obtain ⟨A, c, h1, _⟩ := h
  exact h1
theorem IsS57.below (h : IsS57 w0 W g f0 f1 f2) (hw : Below W.heap.size W W1) : IsS57 w0 W1 g f0 f1 f2 := by
  obtain ⟨F, a, b, c⟩ := h
  exact ⟨F, a.mu (Mu.of_below hw (fun _ => False)) (fun _ _ e => e), fun k hk => ⟨(b k hk).1, Nat.lt_of_lt_of_le (b k hk).2 hw.size⟩, c⟩
theorem IsS57.drewN (h : IsS57 w0 W g f0 f1 f2) (m : Nat) : IsS57 w0 (W.drewN m) g f0 f1 f2 := h.below (pw_below_drewN (Below.refl _ _) m)
theorem IsS57.ge (h : IsS57 w0 W g f0 f1 f2) : w0.heap.size ≤ g := by
  obtain ⟨F, a, b, c⟩ := h
  exact (b g a.own).1
end
theorem keep_mu {w w' : World} {g : Nat} (h : Mu (· = g) w w') : KeepBut w w' g none := ⟨h.size, fun i hi hg _ => h.block i hi hg⟩
theorem same_post {w0 w : World} {g : Nat} {f0 : List Int} {f1 f2 : Int} (h : IsS57 w0 w g f0 f1 f2) (hB : Below w0.heap.size w0 w) (n : Nat) :
    IsS57 w0 (w.drewN n) g f0 f1 f2 ∧ Below w0.heap.size w0 (w.drewN n) ∧ KeepBut w (w.drewN n) g none := ⟨h.drewN n, pw_below_drewN hB n, keep_drewN (KeepBut.refl _ _ _) n⟩
def wire_Reader_Left.f (s0 : List Int) (s1 s2 : Int) : Option (Int × Int × Int) := some (s0.length - s1, s1, s2)
theorem wire_Reader_Left.calls (g : Nat) (s0_0 : List Int) (s0_1 : Int) (s0_2 : Int) (r1 : Int) (r2 : Int) (r3 : Int) (w0 w : World) (hI : IsS57 w0 w g s0_0 s0_1 s0_2) (hB : Below w0.heap.size w0 w) (h : wire_Reader_Left.f s0_0 s0_1 s0_2 = some (r1, r2, r3)) :
    Calls Try.prog 29 #[.pointer (some ⟨g, 0, none⟩)] w fun e w' => e = .returned (.int .i64 r1) ∧ IsS57 w0 w' g s0_0 r2 r3 ∧ Below w0.heap.size w0 w' ∧ KeepBut w w' g none := by
  have hh := Option.some.inj h
  obtain ⟨rfl, rfl, rfl⟩ : (s0_0.length - s0_1 : Int) = r1 ∧ s0_1 = r2 ∧ s0_2 = r3 := by simpa using hh
  have hI' := hI
  obtain ⟨F, a, b, c0, c1, c2⟩ := hI
  refine (left_any a c0 c1).mono ?_
  rintro en w' ⟨rfl, n, rfl⟩
  exact ⟨rfl, same_post hI' hB n⟩
def wire_Reader_Err.f (_ : List Int) (s1 s2 : Int) : Option (Int × Int × Int) := some (s2, s1, s2)
theorem wire_Reader_Err.calls (g : Nat) (s0_0 : List Int) (s0_1 : Int) (s0_2 : Int) (r1 : Int) (r2 : Int) (r3 : Int) (w0 w : World) (hI : IsS57 w0 w g s0_0 s0_1 s0_2) (hB : Below w0.heap.size w0 w) (h : wire_Reader_Err.f s0_0 s0_1 s0_2 = some (r1, r2, r3)) :
    Calls Try.prog 23 #[.pointer (some ⟨g, 0, none⟩)] w fun e w' => e = .returned (.int .i64 r1) ∧ IsS57 w0 w' g s0_0 r2 r3 ∧ Below w0.heap.size w0 w' ∧ KeepBut w w' g none := by
  have hh := Option.some.inj h
  obtain ⟨rfl, rfl, rfl⟩ : s0_2 = r1 ∧ s0_1 = r2 ∧ s0_2 = r3 := by simpa using hh
  have hI' := hI
  obtain ⟨F, a, b, c0, c1, c2⟩ := hI
  refine (err_any a).mono ?_
  rintro en w' ⟨rfl, n, rfl⟩
  exact ⟨rfl, same_post hI' hB n⟩
def wire_Reader_End.f (s0 : List Int) (s1 s2 : Int) : Option (Int × Int × Int) := some ((if s2 = 0 ∧ s1 < s0.length then 4 else s2), s1, s2)
theorem wire_Reader_End.calls (g : Nat) (s0_0 : List Int) (s0_1 : Int) (s0_2 : Int) (r1 : Int) (r2 : Int) (r3 : Int) (w0 w : World) (hI : IsS57 w0 w g s0_0 s0_1 s0_2) (hB : Below w0.heap.size w0 w) (h : wire_Reader_End.f s0_0 s0_1 s0_2 = some (r1, r2, r3)) :
    Calls Try.prog 22 #[.pointer (some ⟨g, 0, none⟩)] w fun e w' => e = .returned (.int .i64 r1) ∧ IsS57 w0 w' g s0_0 r2 r3 ∧ Below w0.heap.size w0 w' ∧ KeepBut w w' g none := by
  have hh := Option.some.inj h
  have e1 := congrArg Prod.fst hh
  have e2 := congrArg (fun z => z.2.1) hh
  have e3 := congrArg (fun z => z.2.2) hh
  dsimp only at e1 e2 e3
  have hI' := hI
  obtain ⟨F, a, b, c0, c1, c2⟩ := hI
  refine (End_any a c0 c1).mono ?_
  rintro en w' ⟨rfl, n, rfl⟩
  subst e2 e3
  exact ⟨by rw [e1], same_post hI' hB n⟩
def wire_Reader_Num.f (s0 : List Int) (s1 s2 a1 : Int) : Option (Int × Int × Int) := some (rdNum s0 s1 s2 a1)
theorem wire_Reader_Num.calls (g : Nat) (s0_0 : List Int) (s0_1 : Int) (s0_2 : Int) (a1 : Int) (r1 : Int) (r2 : Int) (r3 : Int) (w0 w : World) (hI : IsS57 w0 w g s0_0 s0_1 s0_2) (hB : Below w0.heap.size w0 w) (h : wire_Reader_Num.f s0_0 s0_1 s0_2 a1 = some (r1, r2, r3)) :
    Calls Try.prog 21 #[.pointer (some ⟨g, 0, none⟩), .int .u64 a1] w fun e w' => e = .returned (.int .u64 r1) ∧ IsS57 w0 w' g s0_0 r2 r3 ∧ Below w0.heap.size w0 w' ∧ KeepBut w w' g none := by
  have hh : rdNum s0_0 s0_1 s0_2 a1 = (r1, r2, r3) := Option.some.inj h
  obtain ⟨F, a, b, c0, c1, c2⟩ := hI
  refine (Num_any a (fun k hk => (b k hk).2) c0 c1).mono ?_
  rintro en w' ⟨rfl, i, p0, p1, mu⟩
  rw [hh] at i p0 p1 ⊢
  refine ⟨rfl, ⟨F, i, fun k hk => ⟨(b k hk).1, Nat.lt_of_lt_of_le (b k hk).2 mu.size⟩, p0, p1, c2⟩, Mu.below_of hB mu (fun k hk e => ?_), keep_mu mu⟩
  subst e
  exact Nat.not_le.2 hk (b k a.own).1
def wire_NewReader.f (l0 : List Int) : Option (List Int × Int × Int) := if l0.length < 140737488355328 then some (l0, 0, 0) else none
theorem wire_NewReader.calls (A0 : Option Addr) (c0 : Nat) (l0 : List Int) (r1 : List Int) (r2 : Int) (r3 : Int) (w0 w : World) (hB : Below w0.heap.size w0 w) (hr0 : Kd.C (Kd.int .u8) w A0 l0.length l0) (hc0 : l0.length ≤ c0) (h : wire_NewReader.f l0 = some (r1, r2, r3)) :
    Calls Try.prog 20 #[.slice A0 l0.length c0] w fun e w' => ∃ g, e = .returned (.pointer (some ⟨g, 0, none⟩)) ∧ IsS57 w0 w' g r1 r2 r3 ∧ Below w0.heap.size w0 w' ∧ Below w.heap.size w w' := by
  unfold wire_NewReader.f at h
  split at h
  case isFalse => cases h
  rename_i hl
  have hh := Option.some.inj h
  obtain ⟨rfl, rfl, rfl⟩ : l0 = r1 ∧ (0 : Int) = r2 ∧ (0 : Int) = r3 := by simpa using hh
  refine (NewReader_any hr0 hc0 hl).mono ?_
  rintro en w' ⟨g, rfl, hg, i, bl⟩
  exact ⟨g, rfl, ⟨_, i, fun k hk => ⟨Nat.le_trans hB.size hk.1, hk.2⟩, by omega, by omega, hl⟩, below_step hB bl, bl⟩
end Go.Proofs.Ytabljieejnhefaa.Hand
namespace Go.Proofs.Ytabljieejnhefaa.PK
open Go.RowKit Go.Proofs.YtabljieejnhefaaW.PrintWords Go.Proofs.YtabljieejnhefaaW.PrintLast Go.Proofs.YtabljieejnhefaaW.PrintMore
attribute [local go_sem] max2_int min2_int max_two min_two max_three min_three max_four min_four
set_option linter.unusedVariables false
set_option linter.unusedSimpArgs false
def errW : Option Int → Value
  | none => .nilIface
  | some c => .iface 0 (.int .i64 c)
theorem errW_none : errW none = .nilIface := rfl
theorem errW_some (c : Int) : errW (some c) = .iface 0 (.int .i64 c) := rfl
end Go.Proofs.Ytabljieejnhefaa.PK
namespace Go.Proofs.Ytabljieejnhefaa.PK
open Go.RowKit Go.Proofs.YtabljieejnhefaaW.PrintWords Go.Proofs.YtabljieejnhefaaW.PrintLast Go.Proofs.YtabljieejnhefaaW.PrintMore
attribute [local go_sem] max2_int min2_int max_two min_two max_three min_three max_four min_four
set_option linter.unusedVariables false
set_option linter.unusedSimpArgs false
def IsS46 (w0 W : World) (g : Nat) (f0 : List Int) (f1 : Int) (f2 : Int) : Prop := ∃ A0 c0, W.heap[g]? = some (.cells #[.slice A0 f0.length c0, .int .i64 f1, .int .i64 f2] 46 (0, 0)) ∧ w0.heap.size ≤ g ∧ (Kd.C (Kd.int .u8) w0 A0 f0.length f0 ∧ f0.length ≤ c0)
theorem IsS46.drewN {w0 W : World} {g : Nat} {f0 : List Int} {f1 : Int} {f2 : Int} (h : IsS46 w0 W g f0 f1 f2) (m : Nat) : IsS46 w0 (W.drewN m) g f0 f1 f2 := h
theorem IsS46.at_ {w0 W : World} {g : Nat} {f0 : List Int} {f1 : Int} {f2 : Int} {w' : World} {m : Nat} (hq : W.drewN m = w') (h : IsS46 w0 W g f0 f1 f2) : IsS46 w0 w' g f0 f1 f2 := by subst hq; exact IsS46.drewN h m
def tikref2_Reader_Left.f (s0_0 : List Int) (s0_1 : Int) (s0_2 : Int) : Option (Int × Int × Int) := some (wrap64 ((s0_0.length : Int) - s0_1), s0_1, s0_2)
def tikref2_Reader_End.f (s0_0 : List Int) (s0_1 : Int) (s0_2 : Int) : Option (Int × Int × Int) := if s0_2 = 0 then ((tikref2_Reader_Left.f s0_0 s0_1 s0_2).bind fun bt101 => (if bt101.1 > 0 then (some (4, bt101.2.1, bt101.2.2)) else (some (bt101.2.2, bt101.2.1, bt101.2.2)))) else (some (s0_2, s0_1, s0_2))
end Go.Proofs.Ytabljieejnhefaa.PK
namespace Go.Proofs.Ytabljieejnhefaa.Hand
open Go.RowKit Go.Proofs.YtabljieejnhefaaW.PrintWords Go.Proofs.YtabljieejnhefaaW.PrintLast Go.Proofs.YtabljieejnhefaaW.PrintMore Go.Proofs.Ytabljieejnhefaa.PA Go.Proofs.Ytabljieejnhefaa.PK
set_option linter.unusedSimpArgs false
set_option linter.unusedVariables false
def tikref2_Reader_Num.f (k : Nat) (l : List Int) (p e m : Int) : Option (Int × Int × Int) :=
  if e = 0 then (tikref2_Get.f k l p).bind fun r => if r.2.2 = 0 then if r.1 > m then some (0, p, 1) else some (r.1, r.2.1, e) else some (0, p, r.2.2)
  else some (0, p, e)
def tikref2_Reader_Raw.f (l : List Int) (p e n : Int) : Option (List Int × Int × Int) :=
  if e = 0 then if n < 0 then some ([], p, 1) else if 0 ≤ p ∧ p ≤ l.length ∧ l.length < 140737488355328 then if n > l.length - p then some ([], p, 3) else some ((l.drop p.toNat).take n.toNat, p + n, e) else none
  else some ([], p, e)
end Go.Proofs.Ytabljieejnhefaa.Hand
namespace Go.Proofs.Ytabljieejnhefaa.Hand
open Go.RowKit Go.Proofs.YtabljieejnhefaaW.PrintWords Go.Proofs.YtabljieejnhefaaW.PrintLast Go.Proofs.YtabljieejnhefaaW.PrintMore Go.Proofs.Ytabljieejnhefaa.PA Go.Proofs.Ytabljieejnhefaa.PK
set_option linter.unusedSimpArgs false
set_option linter.unusedVariables false
def tikref2_Reader_Text.f (k : Nat) (l : List Int) (p e m : Int) : Option (ByteArray × Int × Int) :=
  (tikref2_Reader_Num.f k l p e m).bind fun r =>
    if r.2.2 = 0 then
      if 0 ≤ r.1 ∧ r.1 < 18446744073709551616 ∧ 0 ≤ r.2.1 ∧ r.2.1 ≤ l.length ∧ l.length < 140737488355328 then
        if r.1 > l.length - r.2.1 then some (⟨#[]⟩, p, 3) else some (strOfNums ((l.drop r.2.1.toNat).take r.1.toNat), r.2.1 + r.1, 0)
      else none
    else some (⟨#[]⟩, r.2.1, r.2.2)
def wire_Reader_Raw.f (s0 : List Int) (s1 s2 a1 : Int) : Option (List Int × Int × Int) := if a1 ≤ 9223372036854775807 then some (rdRaw s0 s1 s2 a1) else none
theorem wire_Reader_Raw.calls (g : Nat) (s0_0 : List Int) (s0_1 s0_2 a1 : Int) (r1 : List Int) (r2 r3 : Int) (w0 w : World) (hI : IsS57 w0 w g s0_0 s0_1 s0_2) (hB : Below w0.heap.size w0 w) (h : wire_Reader_Raw.f s0_0 s0_1 s0_2 a1 = some (r1, r2, r3)) :
    Calls Try.prog 25 #[.pointer (some ⟨g, 0, none⟩), .int .i64 a1] w fun e w' => ∃ v0_ : Value, e = .returned v0_ ∧ Kd.R (Kd.int .u8) 5 w' w.heap.size (fun _ => True) v0_ r1 ∧ IsS57 w0 w' g s0_0 r2 r3 ∧ Below w0.heap.size w0 w' ∧ KeepBut w w' g none := by
  unfold wire_Reader_Raw.f at h
  split at h
  case isFalse => cases h
  rename_i hb
  have hh : rdRaw s0_0 s0_1 s0_2 a1 = (r1, r2, r3) := Option.some.inj h
  obtain ⟨F, a, b, c0, c1, c2⟩ := hI
  refine (Raw_any a (fun k hk => (b k hk).2) c0 c1 c2 hb).mono ?_
  rintro en w' ⟨⟨v, rfl, hv⟩, i, p0, p1, mu⟩
  rw [hh] at hv i p0 p1
  refine ⟨v, rfl, hv, ⟨F, i, fun k hk => ⟨(b k hk).1, Nat.lt_of_lt_of_le (b k hk).2 mu.size⟩, p0, p1, c2⟩, Mu.below_of hB mu (fun k hk e => ?_), keep_mu mu⟩
  subst e
  exact Nat.not_le.2 hk (b k a.own).1
def wire_Reader_Text.f (s0 : List Int) (s1 s2 a1 : Int) : Option (ByteArray × Int × Int) := if a1 ≤ 9223372036854775807 then some (rdText s0 s1 s2 a1) else none
theorem wire_Reader_Text.calls (g : Nat) (s0_0 : List Int) (s0_1 s0_2 a1 : Int) (r1 : ByteArray) (r2 r3 : Int) (w0 w : World) (hI : IsS57 w0 w g s0_0 s0_1 s0_2) (hB : Below w0.heap.size w0 w) (h : wire_Reader_Text.f s0_0 s0_1 s0_2 a1 = some (r1, r2, r3)) :
    Calls Try.prog 27 #[.pointer (some ⟨g, 0, none⟩), .int .i64 a1] w fun e w' => e = .returned (.string r1) ∧ IsS57 w0 w' g s0_0 r2 r3 ∧ Below w0.heap.size w0 w' ∧ KeepBut w w' g none := by
  unfold wire_Reader_Text.f at h
  split at h
  case isFalse => cases h
  rename_i hb
  have hh : rdText s0_0 s0_1 s0_2 a1 = (r1, r2, r3) := Option.some.inj h
  obtain ⟨F, a, b, c0, c1, c2⟩ := hI
  refine (Text_any a (fun k hk => (b k hk).2) c0 c1 c2 hb).mono ?_
  rintro en w' ⟨rfl, i, p0, p1, mu⟩
  rw [hh] at i p0 p1 ⊢
  refine ⟨rfl, ⟨F, i, fun k hk => ⟨(b k hk).1, Nat.lt_of_lt_of_le (b k hk).2 mu.size⟩, p0, p1, c2⟩, Mu.below_of hB mu (fun k hk e => ?_), keep_mu mu⟩
  subst e
  exact Nat.not_le.2 hk (b k a.own).1
def newReader.f (l0 : List Int) : Option (List Int × Int × Int) := wire_NewReader.f l0
theorem newReader.calls (A0 : Option Addr) (c0 : Nat) (l0 : List Int) (r1 : List Int) (r2 : Int) (r3 : Int) (w0 w : World) (hB : Below w0.heap.size w0 w) (hr0 : Kd.C (Kd.int .u8) w A0 l0.length l0) (hc0 : l0.length ≤ c0) (h : newReader.f l0 = some (r1, r2, r3)) :
    Calls Try.prog 20 #[.slice A0 l0.length c0] w fun e w' => ∃ g, e = .returned (.pointer (some ⟨g, 0, none⟩)) ∧ IsS57 w0 w' g r1 r2 r3 ∧ Below w0.heap.size w0 w' ∧ Below w.heap.size w w' ∧ w.heap.size ≤ g :=
  (wire_NewReader.calls A0 c0 l0 r1 r2 r3 w w (Below.refl _ _) hr0 hc0 h).mono fun _ _ ⟨g, h1, h2, h3, h4⟩ => ⟨g, h1, (by
    obtain ⟨F, a, b, c⟩ := h2
    exact ⟨F, a, fun k hk => ⟨Nat.le_trans hB.size (b k hk).1, (b k hk).2⟩, c⟩), below_step hB h4, h4, h2.ge⟩
def kLeft.f (s0 : List Int) (s1 s2 : Int) : Option Int := (wire_Reader_Left.f s0 s1 s2).bind fun b => if b.2 = (s1, s2) then some b.1 else none
theorem kLeft.calls (g : Nat) (s0_0 : List Int) (s0_1 s0_2 r1 : Int) (w0 w : World) (hI : IsS57 w0 w g s0_0 s0_1 s0_2) (hB : Below w0.heap.size w0 w) (h : kLeft.f s0_0 s0_1 s0_2 = some r1) :
    Calls Try.prog 29 #[.pointer (some ⟨g, 0, none⟩)] w fun e w' => e = .returned (.int .i64 r1) ∧ IsS57 w0 w' g s0_0 s0_1 s0_2 ∧ Below w0.heap.size w0 w' ∧ KeepBut w w' g none := by
  unfold kLeft.f at h
  obtain ⟨⟨q1, q2, q3⟩, hb, h2⟩ := Option.bind_eq_some_iff.mp h
  by_cases hc : (q2, q3) = (s0_1, s0_2)
  · have hh := (if_pos hc).symm.trans h2
    obtain ⟨rfl, rfl⟩ : q2 = s0_1 ∧ q3 = s0_2 := by simpa using hc
    obtain rfl : q1 = r1 := Option.some.inj hh
    exact wire_Reader_Left.calls g s0_0 q2 q3 q1 q2 q3 w0 w hI hB hb
  · have hh := (if_neg hc).symm.trans h2
    cases hh
def kErr.f (s0 : List Int) (s1 s2 : Int) : Option Int := (wire_Reader_Err.f s0 s1 s2).bind fun b => if b.2 = (s1, s2) then some b.1 else none
theorem kErr.calls (g : Nat) (s0_0 : List Int) (s0_1 s0_2 r1 : Int) (w0 w : World) (hI : IsS57 w0 w g s0_0 s0_1 s0_2) (hB : Below w0.heap.size w0 w) (h : kErr.f s0_0 s0_1 s0_2 = some r1) :
    Calls Try.prog 23 #[.pointer (some ⟨g, 0, none⟩)] w fun e w' => e = .returned (.int .i64 r1) ∧ IsS57 w0 w' g s0_0 s0_1 s0_2 ∧ Below w0.heap.size w0 w' ∧ KeepBut w w' g none := by
  unfold kErr.f at h
  obtain ⟨⟨q1, q2, q3⟩, hb, h2⟩ := Option.bind_eq_some_iff.mp h
  by_cases hc : (q2, q3) = (s0_1, s0_2)
  · have hh := (if_pos hc).symm.trans h2
    obtain ⟨rfl, rfl⟩ : q2 = s0_1 ∧ q3 = s0_2 := by simpa using hc
    obtain rfl : q1 = r1 := Option.some.inj hh
    exact wire_Reader_Err.calls g s0_0 q2 q3 q1 q2 q3 w0 w hI hB hb
  · have hh := (if_neg hc).symm.trans h2
    cases hh
def kEnd.f (s0 : List Int) (s1 s2 : Int) : Option Int := (wire_Reader_End.f s0 s1 s2).bind fun b => if b.2 = (s1, s2) then some b.1 else none
theorem kEnd.calls (g : Nat) (s0_0 : List Int) (s0_1 s0_2 r1 : Int) (w0 w : World) (hI : IsS57 w0 w g s0_0 s0_1 s0_2) (hB : Below w0.heap.size w0 w) (h : kEnd.f s0_0 s0_1 s0_2 = some r1) :
    Calls Try.prog 22 #[.pointer (some ⟨g, 0, none⟩)] w fun e w' => e = .returned (.int .i64 r1) ∧ IsS57 w0 w' g s0_0 s0_1 s0_2 ∧ Below w0.heap.size w0 w' ∧ KeepBut w w' g none := by
  unfold kEnd.f at h
  obtain ⟨⟨q1, q2, q3⟩, hb, h2⟩ := Option.bind_eq_some_iff.mp h
  by_cases hc : (q2, q3) = (s0_1, s0_2)
  · have hh := (if_pos hc).symm.trans h2
    obtain ⟨rfl, rfl⟩ : q2 = s0_1 ∧ q3 = s0_2 := by simpa using hc
    obtain rfl : q1 = r1 := Option.some.inj hh
    exact wire_Reader_End.calls g s0_0 q2 q3 q1 q2 q3 w0 w hI hB hb
  · have hh := (if_neg hc).symm.trans h2
    cases hh
def rLeft.f (s0 : List Int) (s1 s2 : Int) : Option Int := (tikref2_Reader_Left.f s0 s1 s2).bind fun b => if b.2 = (s1, s2) then some b.1 else none
def rEnd.f (s0 : List Int) (s1 s2 : Int) : Option Int := (tikref2_Reader_End.f s0 s1 s2).bind fun b => if b.2 = (s1, s2) then some b.1 else none
end Go.Proofs.Ytabljieejnhefaa.Hand
namespace Go.Proofs.Ytabljieejnhefaa.Hand
open Go.RowKit Go.Proofs.YtabljieejnhefaaW.PrintWords Go.Proofs.YtabljieejnhefaaW.PrintLast Go.Proofs.YtabljieejnhefaaW.PrintMore Go.Proofs.Ytabljieejnhefaa.PA Go.Proofs.Ytabljieejnhefaa.PK
set_option linter.unusedSimpArgs false
set_option linter.unusedVariables false
structure KeepR (w w' : World) (g : Nat) : Prop where
  all : KeepBut w w' g none
  ref : ∃ A n c p e, w.heap[g]? = some (.cells #[.slice A n c, .int .i64 p, .int .i64 e] 46 (0, 0))
def refReader.f (l : List Int) : Option (List Int × Int × Int) := some (l, 0, 0)
def xNum.f (k : Nat) (s0 : List Int) (s1 s2 : Int) (a1 : Int) : Option (Int × Int × Int) := tikref2_Reader_Num.f k s0 s1 s2 a1
def xRaw.f (s0 : List Int) (s1 s2 : Int) (a1 : Int) : Option (List Int × Int × Int) := tikref2_Reader_Raw.f s0 s1 s2 a1
def xText.f (k : Nat) (s0 : List Int) (s1 s2 : Int) (a1 : Int) : Option (ByteArray × Int × Int) := tikref2_Reader_Text.f k s0 s1 s2 a1
def xLeft.f (s0 : List Int) (s1 s2 : Int) : Option (Int) := rLeft.f s0 s1 s2
def xEnd.f (s0 : List Int) (s1 s2 : Int) : Option (Int) := rEnd.f s0 s1 s2
end Go.Proofs.Ytabljieejnhefaa.Hand
namespace Go.Proofs.YtabljieejnhefaaW.PrintWords
open Go.RowKit
section
variable {P : Program}
theorem run_append_str_at (w : World) (base : Nat) (t u ty e : TypeId) (i : TypeInfo) (ht : P.underlying t = some (.slice e)) (hu : P.underlying u = some .string) (hi : P.info? e = some i) (hz : i.zero = some (.int .u8 0))
    (hsize : i.size = 1) (hby : i.bytes = 1)
    (v : Value) (n : Nat) (xs : List Value) (hown : w.ownsRow base e 1 v n xs) (s : ByteArray)
    (hbytes : n + s.size ≤ 140737488355328) (hbase : base ≤ w.heap.size) :
    ∃ v' w', (Builtin.append_ #[t, u] ty #[v, .string s]).run P w = .ok v' w' ∧ w'.ownsRow base e 1 v' (n + s.size) (xs ++ Lib.strCells s) ∧ w.grownBy w' v.ownBlock ∧
      (v'.ownBlock = v.ownBlock ∨ ∃ b, v'.ownBlock = some b ∧ w.heap.size ≤ b) := by
  obtain ⟨v', w', hr, ho, hg, _⟩ := Lib.run_append_own_string (P := P) w base t u ty e i ht hu hi hz hsize hby v n xs hown s (by simp only [maxLen]; omega) hbytes hbase
  refine ⟨v', w', hr, ho, hg, ?_⟩
  have hxl : xs.length = n := by simpa using hown.1
  have same : ∀ {v1 w1}, (Builtin.append_ #[t, u] ty #[v, .string s]).run P w = .ok v1 w1 → v' = v1 := by
    intro v1 w1 h1
    rw [h1] at hr
    injection hr with h2 _
    exact h2.symm
  rcases hown.2 with ⟨rfl, rfl⟩ | ⟨g, cap, cur, rfl, hbg, hg, hnc, hcm, hcs, htake⟩
  · by_cases hm : s.size = 0
    · have hf := Lib.run_firstCells_string (P := P) w 1 s
      rw [hm] at hf
      refine .inl ?_
      rw [same (v1 := .slice none 0 0) (w1 := w) (by simp [Builtin.append_, run_underlying ht, run_underlying hu, sizeOf, typeInfo, hi, hsize, Builtin.lenOf, hm, hf])]
    · have h1 := run_append_nil_string (P := P) w t u ty e i (.int .u8 0) ht hu hi hz s (by omega) (by omega) (by rw [hby]; omega)
      rw [same h1]
      exact .inr ⟨_, rfl, Nat.le_refl _⟩
  · by_cases hroom : n + s.size ≤ cap
    · have hcs' : cur.size = cap := by simpa using hcs
      have h1 := Lib.run_append_room_string (P := P) w t u ty e i ht hu hi hsize g n cap cur hg s hroom (by omega)
      rw [same h1]
      exact .inl rfl
    · have holds : ∀ j u, xs[j]? = some u → w.cell? ((⟨g, 0, none⟩ : Addr).add j) = some u := hown.cells (g := g) rfl
      have h1 := Lib.run_append_grow_string (P := P) w t u ty e i (.int .u8 0) ht hu hi hz ⟨g, 0, none⟩ n cap xs (by rw [hsize]; simpa using hxl) holds s (by omega) (by omega) (by rw [hby]; exact growslice_fits (by omega) (by omega))
      rw [same h1]
      exact .inr ⟨_, rfl, Nat.le_refl _⟩
end
namespace Kd
section
variable {P : Program} {ops : Array Oper} {rest : List Oper} {o : Oper} {a : Act} {Q : Exit → Act → World → Prop} {Kc : Act → World → Prop}
theorem run_R_append_str (W : World) (base : Nat) (t u ty e : TypeId) (ht : P.underlying t = some (.slice e)) (hu : P.underlying u = some .string) (hinfo : (P.info? e).map (fun i => (i.zero, i.size, i.bytes)) = some (some (.int .u8 0), 1, 1))
    (v : Value) (xs : List Int) (y : ByteArray) (ok : Nat → Prop) (HO : (Kd.int .u8).R e W base ok v xs) (hfresh : ∀ k, W.heap.size ≤ k → ok k) (hbase : base ≤ W.heap.size) (hl : xs.length + y.size ≤ 140737488355328) :
    ∃ v1 w1, (Builtin.append_ #[t, u] ty #[v, .string y]).run P W = .ok v1 w1 ∧ (Kd.int .u8).R e w1 base ok v1 (xs ++ bytesOf y) ∧ W.grownBy w1 v.ownBlock ∧ (v1.ownBlock = v.ownBlock ∨ ∃ b, v1.ownBlock = some b ∧ W.heap.size ≤ b) := by
  obtain ⟨i0, hi, hzz⟩ := Option.map_eq_some_iff.1 hinfo
  simp only [Prod.mk.injEq] at hzz
  obtain ⟨hz0, hz1, hz2⟩ := hzz
  obtain ⟨v1, w1, hr, ho, hg, hat⟩ := run_append_str_at (P := P) W base t u ty e i0 ht hu hi hz0 hz1 hz2 v xs.length _ (own_of_R HO) y hl hbase
  refine ⟨v1, w1, hr, R_of_own ?_ ?_, hg, hat⟩
  · have hl2 : (xs ++ bytesOf y).length = xs.length + y.size := by rw [List.length_append, bytesOf_length]
    have hc : encs (Value.int .u8) (xs ++ bytesOf y) = encs (Value.int .u8) xs ++ Lib.strCells y := by
      simp [encs, bytesOf, Lib.strCells]
    rw [hl2, hc]
    exact ho
  · intro k hk
    rcases hat with hat | ⟨b, hb, hle⟩
    · exact HO.1 k (hat ▸ hk)
    · rw [hb] at hk
      injection hk with hk
      exact hfresh k (by omega)
theorem R_append_str_step {w0 W : World} (base : Nat) (hw : Region.wanted o (yielded ops a.tmps) = true) (s x : Operand) (t u e : TypeId)
    (ho : o.op = .call { callee := .builtin .append, args := #[s, x], argTypes := #[t, u] })
    (ht : P.underlying t = some (.slice e)) (hu : P.underlying u = some .string) (hinfo : (P.info? e).map (fun i => (i.zero, i.size, i.bytes)) = some (some (.int .u8 0), 1, 1))
    (v : Value) (xs : List Int) (y : ByteArray) (ok : Nat → Prop) (hs : a.eval s = v) (hx : a.eval x = .string y)
    (HO : (Kd.int .u8).R e W base ok v xs) (hfresh : ∀ k, W.heap.size ≤ k → ok k)
    (HB : Below base w0 W) (hbase : base ≤ W.heap.size) (hl : xs.length + y.size ≤ 140737488355328)
    (h : ∀ v1 w1, (Kd.int .u8).R e w1 base ok v1 (xs ++ bytesOf y) → Below base w0 w1 → W.grownBy w1 v.ownBlock → (v1.ownBlock = v.ownBlock ∨ ∃ b, v1.ownBlock = some b ∧ W.heap.size ≤ b) → Kc (a.put o.dst v1) w1) :
    if Region.wanted o (yielded ops a.tmps) = true then Oper.wp P o a W Kc Q else Kc (a.put o.dst undef) W := by
  obtain ⟨v1, w1, hr1, h1, hg, hat⟩ := run_R_append_str (P := P) W base t u o.type e ht hu hinfo v xs y ok HO hfresh hbase hl
  rw [if_pos hw]
  unfold Oper.wp execOp
  simp only [ho, resolve, invoke, builtin, Sem.run_bind, Sem.run_pure, Result.andThen_ok, List.map_toArray, List.map_cons, List.map_nil, hs, hx, hr1]
  exact h v1 w1 h1 (HB.grown hg hbase (own_base (own_of_R HO))) hg hat
end
end Kd
end Go.Proofs.YtabljieejnhefaaW.PrintWords
namespace Go.Proofs.Ytabljieejnhefaa.PT
open Go.RowKit Go.Proofs.YtabljieejnhefaaW.PrintWords Go.Proofs.YtabljieejnhefaaW.PrintLast Go.Proofs.YtabljieejnhefaaW.PrintMore
attribute [local go_sem] max2_int min2_int max_two min_two max_three min_three max_four min_four
open Go.Proofs.Ytabljieejnhefaa.Hand
open Go.Proofs.Ytabljieejnhefaa.PA
open Go.Proofs.Ytabljieejnhefaa.PK
set_option linter.unusedVariables false
set_option linter.unusedSimpArgs false
def errW : Option Int → Value
  | none => .nilIface
  | some c => .iface 0 (.int .i64 c)
theorem errW_none : errW none = .nilIface := rfl
theorem errW_some (c : Int) : errW (some c) = .iface 0 (.int .i64 c) := rfl
theorem info5 : (Try.prog.info? 5).map (fun i => (i.zero, i.size, i.bytes)) = some (some (.int .u8 0), 1, 1) := by kernel_rfl
end Go.Proofs.Ytabljieejnhefaa.PT
namespace Go.Proofs.Ytabljieejnhefaa.PT
open Go.RowKit Go.Proofs.YtabljieejnhefaaW.PrintWords Go.Proofs.YtabljieejnhefaaW.PrintLast Go.Proofs.YtabljieejnhefaaW.PrintMore
attribute [local go_sem] max2_int min2_int max_two min_two max_three min_three max_four min_four
open Go.Proofs.Ytabljieejnhefaa.Hand
open Go.Proofs.Ytabljieejnhefaa.PA
open Go.Proofs.Ytabljieejnhefaa.PK
set_option linter.unusedVariables false
set_option linter.unusedSimpArgs false
mutual
def tiklaw2_WireTexts.j1 : Nat → List ByteArray → Int → Int → Option (Bool)
 | 0, _, _, _ => none
 | k + 1, x0, x1, x5 => if (x0.length : Int) > 60 then (tiklaw2_WireTexts.j2 k x0 x1 true) else (if x5 > 3000 then (tiklaw2_WireTexts.j2 k x0 x1 true) else (if x1 < 0 then (tiklaw2_WireTexts.j2 k x0 x1 true) else (tiklaw2_WireTexts.j2 k x0 x1 (decide (x1 > 4000)))))
def tiklaw2_WireTexts.j2 : Nat → List ByteArray → Int → Bool → Option (Bool)
 | 0, _, _, _ => none
 | k + 1, x0, x1, x47 => if x47 = true then ((tiklaw2_first.f).bind fun t103 => (some t103)) else (tiklaw2_WireTexts.l1 k x0 x1 ([] : List Int) 0)
def tiklaw2_WireTexts.l1 : Nat → List ByteArray → Int → List Int → Int → Option (Bool)
 | 0, _, _, _, _ => none
 | k + 1, x0, x1, x7, x8 => if x8 < (x0.length : Int) then (if 0 ≤ x8 then ((wire_Var.f k (IntKind.u64.wrap (((rdOf ByteArray.empty x0 x8).size : Int)))).bind fun t105 => (if x7.length + t105.length < 140737488355328 then ((some (x7 ++ t105 : List Int)).bind fun y108 => (if y108.length + (rdOf ByteArray.empty x0 x8).size < 140737488355328 then (tiklaw2_WireTexts.l1 k x0 x1 (y108 ++ bytesOf (rdOf ByteArray.empty x0 x8)) (wrap64 (x8 + 1))) else (none))) else (none))) else (none)) else ((newReader.f x7).bind fun bt115 => (if false = true then (some false) else (tiklaw2_WireTexts.l2 k x0 x1 0 bt115.1 bt115.2.1 bt115.2.2)))
def tiklaw2_WireTexts.l2 : Nat → List ByteArray → Int → Int → List Int → Int → Int → Option (Bool)
 | 0, _, _, _, _, _, _ => none
 | k + 1, x0, x1, x10, x119000, x119001, x119002 => if x10 < (x0.length : Int) then ((kLeft.f x119000 x119001 x119002).bind fun t122 => ((wire_Reader_Text.f x119000 x119001 x119002 x1).bind fun bt123 => (if 0 ≤ x10 then (if ((rdOf ByteArray.empty x0 x10).size : Int) > x1 then ((tiklaw2_first.f).bind fun t127 => (if t127 = true then (if bt123.1.toList = ([] : List UInt8) then ((kErr.f x119000 bt123.2.1 bt123.2.2).bind fun t128 => (if t128 = 1 then ((kLeft.f x119000 bt123.2.1 bt123.2.2).bind fun t129 => (if t129 = t122 then ((wire_Reader_Raw.f x119000 bt123.2.1 bt123.2.2 1).bind fun bt130 => (if (bt130.1.length : Int) = 0 then ((wire_Reader_Num.f x119000 bt130.2.1 bt130.2.2 5).bind fun bt135 => (if bt135.1 = 0 then ((kEnd.f x119000 bt135.2.1 bt135.2.2).bind fun t138 => (some (t138 == 1))) else (some false))) else (some false))) else (some false))) else (some false))) else (some false)) else (some false))) else (if bt123.1.toList = (rdOf ByteArray.empty x0 x10).toList then (tiklaw2_WireTexts.l2 k x0 x1 (wrap64 (x10 + 1)) x119000 bt123.2.1 bt123.2.2) else (some false))) else (none)))) else ((tiklaw2_first.f).bind fun t119 => (if t119 = true then ((kEnd.f x119000 x119001 x119002).bind fun t120 => (if t120 = 0 then ((kLeft.f x119000 x119001 x119002).bind fun t121 => (some (t121 == 0))) else (some false))) else (some false)))
def tiklaw2_WireTexts.l0 : Nat → List ByteArray → Int → Int → Int → Option (Bool)
 | 0, _, _, _, _ => none
 | k + 1, x0, x1, x5, x6 => if x6 < (x0.length : Int) then (if x6 < 60 then (if 0 ≤ x6 then (tiklaw2_WireTexts.l0 k x0 x1 (wrap64 (x5 + (mn ((rdOf ByteArray.empty x0 x6).size : Int) 3001))) (wrap64 (x6 + 1))) else (none)) else (tiklaw2_WireTexts.j1 k x0 x1 x5)) else (tiklaw2_WireTexts.j1 k x0 x1 x5)
end
def tiklaw2_WireTexts.f (k : Nat) (l0 : List ByteArray) (a1 : Int) : Option (Bool) := (tiklaw2_first.f).bind fun t101 => (if t101 = true then (tiklaw2_WireTexts.l0 k l0 a1 0 0) else (some false))
def tiklaw2_WireTexts.T14 : Bool × List (List Nat × List Nat) := (true, [([], []), ([], []), ([], []), ([1, 2], [1, 2]), ([3], [3]), ([4], [4]), ([5], [5]), ([6], [6]), ([0, 7, 7], [0, 7]), ([], []), ([], []), ([9, 10], [9, 10]), ([11], [11]), ([8, 12, 8], [8, 12]), ([13, 13, 0, 1, 2, 3, 4, 5, 6, 7, 8, 9, 10, 11, 12, 13], [0, 13])])
def tiklaw2_WireTexts.B14 : List Nat := [0, 0, 0, 6, 14, 30, 62, 126, 255, 0, 0, 1536, 3584, 8191, 16383]
theorem tiklaw2_WireTexts.tab14 : rtab .any (opsOf Try.f8 14) = tiklaw2_WireTexts.T14 := by kernel_rfl
theorem tiklaw2_WireTexts.bits14 : waitsOk tiklaw2_WireTexts.T14.2 tiklaw2_WireTexts.B14 = true := by kernel_rfl
set_option maxHeartbeats 8000000 in
set_option maxRecDepth 100000 in
theorem tiklaw2_WireTexts.calls (k : Nat) (A0 : Option Addr) (c0 : Nat) (l0 : List ByteArray) (a1 : Int) (r : Bool) (w : World) (hr0 : Kd.C Kd.string w A0 l0.length l0) (hc0 : l0.length ≤ c0) (hr_ : Aside0 (r = true)) (h : tiklaw2_WireTexts.f k l0 a1 = some r) :
  Calls Try.prog 8 #[.slice A0 l0.length c0, .int .i64 a1] w fun e w' => e = .returned (.bool r) ∧ Below w.heap.size w w' := by
 have HR0 := Aside0.mk hr0
 have HC0 := Aside0.mk hc0
 clear hr0 hc0
 have HB := Aside0.mk (Below.refl w.heap.size w)
 have H : ((tiklaw2_first.f).bind fun t101 => (if t101 = true then (tiklaw2_WireTexts.l0 k l0 a1 0 0) else (some false))) = some r := h
 clear h
 replace H := Option.bind_eq_some_iff.mp H
 obtain ⟨t101, A30, H⟩ := H
 replace H : (if t101 = true then (tiklaw2_WireTexts.l0 k l0 a1 0 0) else (some false)) = some r := H
 have A3 := Aside0.mk A30
 clear A30
 by_cases c4 : t101 = true
 ·subst c4
  have H1 : (tiklaw2_WireTexts.l0 k l0 a1 0 0) = some r := by rw [if_pos rfl] at H; exact H
  clear H
  have H := H1
  clear H1
  have HC5 := Aside0.mk H
  clear H
  go_enter Try.func8, Try.ntmps8
  go_upto_block 0 with (first | ((with_reducible refine gate_callee (f := 9) rfl ?_); refine goesL_ (some 13) rfl rfl Try.func9 (by kernel_rfl) rfl #[] rfl (by (try simp only [List.map_toArray, List.map_cons, List.map_nil]); first | done | rfl | (simp only [List.length_drop, List.length_take]; rfl)) ?_; (with_reducible refine (tiklaw2_first.calls  true _ A3.out).mono ?_); rintro e w6 ⟨rfl, hb⟩; refine ⟨_, rfl, ?_⟩; have n0_ := Aside0.mk (below_step (by repeat (first | (with_reducible first | exact HB.out | apply below_alloc | apply pw_below_drewN | apply below_drew1) | exact HB.out)) hb); clear HB; have HB := n0_; clear n0_; (try clear hb); (try clear hb2); (try clear hk); (try clear hi)))
  (try simp only [Act.put, List.setIfInBounds_toArray, List.set_cons_zero, List.set_cons_succ])
  go_cut [5] (fun v5 wc => ∃ (kq : Nat) (x5_4 : Int), v5 = .int .i64 x5_4 ∧ Aside0 (tiklaw2_WireTexts.j1 kq l0 a1 x5_4 = some r) ∧ Aside0 (kq ≤ k) ∧ Aside0 (Below w.heap.size w wc))
  case first =>
   have H := HC5.out
   clear HC5
   have H' := Aside0.mk H
   clear H
   go_wp2
   go_loopg [5, 6] k (fun kq v5 v6 w' => ∃ (x5_1 : Int) (x6_1 : Int), v5 = .int .i64 x5_1 ∧ v6 = .int .i64 x6_1 ∧ Aside0 (tiklaw2_WireTexts.l0 kq l0 a1 x5_1 x6_1 = some r) ∧ Aside0 (kq ≤ k) ∧ Aside0 (Below w.heap.size w w'))
   case atStart => exact ⟨(0), (0), (by first | rfl | (simp; done) | (simp [*]; done)), (by first | rfl | (simp; done) | (simp [*]; done)), H', ⟨Nat.le_refl _⟩, ⟨by repeat (first | (with_reducible first | exact HB.out | apply below_alloc | apply pw_below_drewN | apply below_drew1) | exact HB.out)⟩⟩
   case round =>
    clear H'
    try clear p2
    try clear c4
    obtain ⟨x5_1, x6_1, rfl, rfl, HA, HK1, HB⟩ := hrel
    cases gk with
    | zero => exact absurd HA.out (by simp [tiklaw2_WireTexts.l0])
    | succ k1 =>
     have H := HA.out
     clear HA
     simp only [tiklaw2_WireTexts.l0] at H
     by_cases c7 : x6_1 < (l0.length : Int)
     ·rw [if_pos c7] at H
      have c7b0 : decide (x6_1 < (l0.length : Int)) = true := decide_eq_true c7
      clear c7
      (first | rw [c7b0] | (simp only [i64_w, i32_w]; rw [c7b0]) | skip)
      by_cases c8 : x6_1 < 60
      ·rw [if_pos c8] at H
       have c8b0 : decide (x6_1 < 60) = true := decide_eq_true c8
       clear c8
       by_cases c9 : 0 ≤ x6_1
       ·rw [if_pos c9] at H
        have c9b0 : decide (0 ≤ x6_1) = true := decide_eq_true c9
        clear c9
        obtain ⟨ji10, hji10⟩ : ∃ j_ : Int, (mn ((rdOf ByteArray.empty l0 x6_1).size : Int) 3001) = j_ := ⟨_, rfl⟩
        replace H : (tiklaw2_WireTexts.l0 k1 l0 a1 (wrap64 (x5_1 + (ji10))) (wrap64 (x6_1 + 1))) = some r := by first | (rw [hji10] at H; exact H) | (simp only [hji10] at H ⊢; exact H)
        have hji10_ : (if 3001 < ((rdOf ByteArray.empty l0 x6_1).size : Int) then 3001 else ((rdOf ByteArray.empty l0 x6_1).size : Int)) = ji10 := hji10
        have H' := Aside0.mk H
        clear H
        have p102 : 0 ≤ (x6_1 : Int) := of_decide_eq_true (by first | (with_reducible assumption) | assumption)
        have q102 : x6_1 < (l0.length : Int) := of_decide_eq_true (by first | (with_reducible assumption) | assumption)
        obtain ⟨ad102, e102, hx102_0⟩ := Kd.at_string HR0.out x6_1 p102 q102
        cases e102
        replace hx102_0 := (HB.out.cell (World.block_lt_of_cell? w _ hx102_0)).trans hx102_0
        replace p102 := eq_true p102
        replace q102 := eq_true q102
        go_wp2
        go_roundg k1
        case measure => have := HK1.out; omega
        case rel => exact ⟨(wrap64 (x5_1 + (ji10))), (wrap64 (x6_1 + 1)), (by first | rfl | (simp; done) | (simp only [← hji10] <;> (first | rfl | simp)) | (simp [*]; done)), (by first | rfl | (simp; done) | (simp [*]; done)), H', ⟨by have := HK1.out; omega⟩, ⟨by repeat (first | (with_reducible first | exact HB.out | apply below_alloc | apply pw_below_drewN | apply below_drew1) | exact HB.out)⟩⟩
       ·rw [if_neg c9] at H
        exact absurd H (by simp)
      ·rw [if_neg c8] at H
       have c8b0 : decide (x6_1 < 60) = false := decide_eq_false c8
       clear c8
       have H' := Aside0.mk H
       clear H
       go_wp2
       go_meet
       case rel => exact ⟨_, (x5_1), (by first | rfl | (simp; done) | (simp [*]; done)), H', ⟨by have := HK1.out; first | omega | exact Nat.le_refl _⟩, ⟨by repeat (first | (with_reducible first | exact HB.out | apply below_alloc | apply pw_below_drewN | apply below_drew1) | exact HB.out)⟩⟩
     ·rw [if_neg c7] at H
      have c7b0 : decide (x6_1 < (l0.length : Int)) = false := decide_eq_false c7
      clear c7
      (first | rw [c7b0] | (simp only [i64_w, i32_w]; rw [c7b0]) | skip)
      have H' := Aside0.mk H
      clear H
      go_wp2
      go_meet
      case rel => exact ⟨_, (x5_1), (by first | rfl | (simp; done) | (simp [*]; done)), H', ⟨by have := HK1.out; first | omega | exact Nat.le_refl _⟩, ⟨by repeat (first | (with_reducible first | exact HB.out | apply below_alloc | apply pw_below_drewN | apply below_drew1) | exact HB.out)⟩⟩
  case rest =>
   clear HC5
   try clear p1
   try clear q1
   try clear hx1
   try clear p2
   try clear c4
   try clear p6
   try clear c7
   try clear c7b0
   try clear c8
   try clear c8b0
   try clear c9
   try clear c9b0
   try clear p10
   try clear q10
   try clear hx10
   try clear hx102_0
   try clear p102
   try clear p2
   try clear q102
   obtain ⟨kq, x5_4, rfl, HA, HJ4, HB⟩ := hcut
   cases kq with
   | zero => exact absurd HA.out (by simp [tiklaw2_WireTexts.j1])
   | succ kj4 =>
    have H := HA.out
    clear HA
    simp only [tiklaw2_WireTexts.j1] at H
    have HC11 := Aside0.mk H
    clear H
    go_upto_region 8 with (fail)
    go_cut [47] (fun v47 wc => ∃ (kq : Nat) (x47_10 : Bool), v47 = .bool x47_10 ∧ Aside0 (tiklaw2_WireTexts.j2 kq l0 a1 x47_10 = some r) ∧ Aside0 (kq ≤ kj4) ∧ Aside0 (Below w.heap.size w wc))
    case first =>
     have H := HC11.out
     clear HC11
     by_cases c12 : (l0.length : Int) > 60
     ·rw [if_pos c12] at H
      have c12b0 : decide (60 < (l0.length : Int)) = true := decide_eq_true c12
      have c12b1 : decide (60 < l0.length) = true := decide_eq_true (by omega)
      clear c12
      (first | rw [c12b0] | (simp only [i64_w, i32_w]; rw [c12b0]) | skip)
      have H' := Aside0.mk H
      clear H
      go_wp2
      go_meet
      case rel => exact ⟨_, (true), (by first | rfl | (simp; done) | (simp [*]; done)), H', ⟨by have := HJ4.out; first | omega | exact Nat.le_refl _⟩, ⟨by repeat (first | (with_reducible first | exact HB.out | apply below_alloc | apply pw_below_drewN | apply below_drew1) | exact HB.out)⟩⟩
     ·rw [if_neg c12] at H
      have c12b0 : decide (60 < (l0.length : Int)) = false := decide_eq_false c12
      have c12b1 : decide (60 < l0.length) = false := decide_eq_false (by omega)
      clear c12
      (first | rw [c12b0] | (simp only [i64_w, i32_w]; rw [c12b0]) | skip)
      by_cases c13 : x5_4 > 3000
      ·rw [if_pos c13] at H
       have c13b0 : decide (3000 < x5_4) = true := decide_eq_true c13
       clear c13
       have H' := Aside0.mk H
       clear H
       go_wp2
       go_meet
       case rel => exact ⟨_, (true), (by first | rfl | (simp; done) | (simp [*]; done)), H', ⟨by have := HJ4.out; first | omega | exact Nat.le_refl _⟩, ⟨by repeat (first | (with_reducible first | exact HB.out | apply below_alloc | apply pw_below_drewN | apply below_drew1) | exact HB.out)⟩⟩
      ·rw [if_neg c13] at H
       have c13b0 : decide (3000 < x5_4) = false := decide_eq_false c13
       clear c13
       by_cases c14 : a1 < 0
       ·rw [if_pos c14] at H
        have c14b0 : decide (a1 < 0) = true := decide_eq_true c14
        clear c14
        have H' := Aside0.mk H
        clear H
        go_wp2
        go_meet
        case rel => exact ⟨_, (true), (by first | rfl | (simp; done) | (simp [*]; done)), H', ⟨by have := HJ4.out; first | omega | exact Nat.le_refl _⟩, ⟨by repeat (first | (with_reducible first | exact HB.out | apply below_alloc | apply pw_below_drewN | apply below_drew1) | exact HB.out)⟩⟩
       ·rw [if_neg c14] at H
        have c14b0 : decide (a1 < 0) = false := decide_eq_false c14
        clear c14
        have H' := Aside0.mk H
        clear H
        go_wp2
        go_meet
        case rel => exact ⟨_, (decide (a1 > 4000)), (by first | rfl | (simp; done) | (simp [*]; done)), H', ⟨by have := HJ4.out; first | omega | exact Nat.le_refl _⟩, ⟨by repeat (first | (with_reducible first | exact HB.out | apply below_alloc | apply pw_below_drewN | apply below_drew1) | exact HB.out)⟩⟩
    case rest =>
     clear HC11
     try clear c1
     try clear p1
     try clear q1
     try clear hx1
     try clear p2
     try clear c4
     try clear p6
     try clear c7
     try clear c7b0
     try clear c8
     try clear c8b0
     try clear c9
     try clear c9b0
     try clear p10
     try clear q10
     try clear hx10
     try clear c12
     try clear c12b0
     try clear c12b1
     try clear c13
     try clear c13b0
     try clear c14
     try clear c14b0
     try clear hx102_0
     try clear p1
     try clear p10
     try clear p102
     try clear p2
     try clear p6
     try clear q1
     try clear q10
     try clear q102
     obtain ⟨kq, x47_10, rfl, HA, HJ10, HB⟩ := hcut
     cases kq with
     | zero => exact absurd HA.out (by simp [tiklaw2_WireTexts.j2])
     | succ kj10 =>
      have H := HA.out
      clear HA
      simp only [tiklaw2_WireTexts.j2] at H
      by_cases c15 : x47_10 = true
      ·subst c15
       have H1 : ((tiklaw2_first.f).bind fun t103 => (some t103)) = some r := by rw [if_pos rfl] at H; exact H
       clear H
       have H := H1
       clear H1
       replace H := Option.bind_eq_some_iff.mp H
       obtain ⟨t103, A160, H⟩ := H
       replace H : (some t103) = some r := H
       have A16 := Aside0.mk A160
       clear A160
       obtain rfl := Option.some.inj H
       go_wp2_with (first | ((with_reducible refine gate_callee (f := 9) rfl ?_); refine goesL_ (some 48) rfl rfl Try.func9 (by kernel_rfl) rfl #[] rfl (by (try simp only [List.map_toArray, List.map_cons, List.map_nil]); first | done | rfl | (simp only [List.length_drop, List.length_take]; rfl)) ?_; (with_reducible refine (tiklaw2_first.calls  t103 _ A16.out).mono ?_); rintro e w17 ⟨rfl, hb⟩; refine ⟨_, rfl, ?_⟩; have n0_ := Aside0.mk (below_step (by repeat (first | (with_reducible first | exact HB.out | apply below_alloc | apply pw_below_drewN | apply below_drew1) | exact HB.out)) hb); clear HB; have HB := n0_; clear n0_; (try clear hb); (try clear hb2); (try clear hk); (try clear hi)))
       go_ret
       exact ⟨by first | rfl | (simp [errW_none, errW_some] <;> rfl) | (simp [*, errW_none, errW_some] <;> rfl), by repeat (first | (with_reducible first | exact HB.out | apply below_alloc | apply pw_below_drewN | apply below_drew1) | exact HB.out)⟩
      ·replace c15 := Bool.eq_false_iff.mpr c15
       subst c15
       have H1 : (tiklaw2_WireTexts.l1 kj10 l0 a1 ([] : List Int) 0) = some r := by rw [if_neg (show ¬ (false = true) by decide)] at H; exact H
       clear H
       have H := H1
       clear H1
       have H' := Aside0.mk H
       clear H
       go_wp2
       go_loopg [7, 8] kj10 (fun kq v7 v8 w' => ∃ (x7_3 : List Int) (x8_3 : Int), v8 = .int .i64 x8_3 ∧ Aside0 (tiklaw2_WireTexts.l1 kq l0 a1 x7_3 x8_3 = some r) ∧ Aside0 (kq ≤ kj10) ∧ Aside0 (Kd.R (Kd.int .u8) 5 w' w.heap.size (fun _ => True) v7 x7_3) ∧ Aside0 (Below w.heap.size w w'))
       case atStart => exact ⟨(([] : List Int)), (0), (by first | rfl | (simp; done) | (simp [*]; done)), H', ⟨Nat.le_refl _⟩, ⟨by first | exact Kd.R_nil _ _ _ _ _ | exact Kd.N_nil _ _ _ _ _ | exact Kd.V_nil _ _ _ _ _ | exact Kd.Q_nil _ _ _ _ _ | exact Kd.S_nil _ _ _ _ _⟩, ⟨by repeat (first | (with_reducible first | exact HB.out | apply below_alloc | apply pw_below_drewN | apply below_drew1) | exact HB.out)⟩⟩
       case round =>
        clear H'
        try clear c1
        try clear p1
        try clear q1
        try clear hx1
        try clear p2
        try clear c4
        try clear p6
        try clear c7
        try clear c7b0
        try clear c8
        try clear c8b0
        try clear c9
        try clear c9b0
        try clear p10
        try clear q10
        try clear hx10
        try clear c12
        try clear c12b0
        try clear c12b1
        try clear c13
        try clear c13b0
        try clear c14
        try clear c14b0
        try clear c15
        try clear hx102_0
        try clear p1
        try clear p10
        try clear p102
        try clear p2
        try clear p6
        try clear q1
        try clear q10
        try clear q102
        obtain ⟨x7_3, x8_3, rfl, HA, HK3, HO_7, HB⟩ := hrel
        cases gk with
        | zero => exact absurd HA.out (by simp [tiklaw2_WireTexts.l1])
        | succ k3 =>
         have H := HA.out
         clear HA
         simp only [tiklaw2_WireTexts.l1] at H
         by_cases c18 : x8_3 < (l0.length : Int)
         ·rw [if_pos c18] at H
          have c18b0 : decide (x8_3 < (l0.length : Int)) = true := decide_eq_true c18
          clear c18
          by_cases c19 : 0 ≤ x8_3
          ·rw [if_pos c19] at H
           have c19b0 : decide (0 ≤ x8_3) = true := decide_eq_true c19
           clear c19
           replace H := Option.bind_eq_some_iff.mp H
           obtain ⟨t105, A200, H⟩ := H
           replace H : (if x7_3.length + t105.length < 140737488355328 then ((some (x7_3 ++ t105 : List Int)).bind fun y108 => (if y108.length + (rdOf ByteArray.empty l0 x8_3).size < 140737488355328 then (tiklaw2_WireTexts.l1 k3 l0 a1 (y108 ++ bytesOf (rdOf ByteArray.empty l0 x8_3)) (wrap64 (x8_3 + 1))) else (none))) else (none)) = some r := H
           have A20 := Aside0.mk A200
           clear A200
           by_cases c21 : x7_3.length + t105.length < 140737488355328
           ·rw [if_pos c21] at H
            have LMc21 := Aside0.mk c21
            clear c21
            obtain ⟨y108, hy108⟩ : ∃ y_ : List Int, y_ = (x7_3 ++ t105) := ⟨_, rfl⟩
            replace H : (if y108.length + (rdOf ByteArray.empty l0 x8_3).size < 140737488355328 then (tiklaw2_WireTexts.l1 k3 l0 a1 (y108 ++ bytesOf (rdOf ByteArray.empty l0 x8_3)) (wrap64 (x8_3 + 1))) else (none)) = some r := by first | (rw [hy108]; with_reducible exact H) | (have H2_ := (Option.bind_some _ _).symm.trans H; rw [hy108]; with_reducible exact H2_) | (have H2_ := (Option.bind_some _ _).symm.trans H; with_reducible exact H2_) | with_reducible exact H | (rw [hy108]; exact H) | exact H
            have Ny108 := Aside0.mk hy108
            clear hy108
            by_cases c22 : y108.length + (rdOf ByteArray.empty l0 x8_3).size < 140737488355328
            ·rw [if_pos c22] at H
             have LMc22 := Aside0.mk c22
             clear c22
             obtain ⟨y112, hy112⟩ : ∃ y_ : List Int, y_ = (y108 ++ bytesOf (rdOf ByteArray.empty l0 x8_3)) := ⟨_, rfl⟩
             replace H : (tiklaw2_WireTexts.l1 k3 l0 a1 y112 (wrap64 (x8_3 + 1))) = some r := by first | (rw [hy112]; with_reducible exact H) | (have H2_ := (Option.bind_some _ _).symm.trans H; rw [hy112]; with_reducible exact H2_) | (have H2_ := (Option.bind_some _ _).symm.trans H; with_reducible exact H2_) | with_reducible exact H | (rw [hy112]; exact H) | exact H
             have Ny112 := Aside0.mk hy112
             clear hy112
             have H' := Aside0.mk H
             clear H
             try go_wp2
             have n0_ := Aside0.mk (Kd.R_drew HO_7.out)
             have n1_ := Aside0.mk (below_drew1 HB.out)
             clear HO_7
             clear HB
             have HO_7 := n0_
             have HB := n1_
             clear n0_ n1_
             have p104 : 0 ≤ (x8_3 : Int) := of_decide_eq_true (by first | (with_reducible assumption) | assumption)
             have q104 : x8_3 < (l0.length : Int) := of_decide_eq_true (by first | (with_reducible assumption) | assumption)
             obtain ⟨ad104, e104, hx104_0⟩ := Kd.at_string HR0.out x8_3 p104 q104
             have hw104_0 := hx104_0
             cases e104
             replace hx104_0 := (HB.out.cell (World.block_lt_of_cell? w _ hx104_0)).trans hx104_0
             replace p104 := eq_true p104
             replace q104 := eq_true q104
             have p111 : 0 ≤ (x8_3 : Int) := of_decide_eq_true (by first | (with_reducible assumption) | assumption)
             have q111 : x8_3 < (l0.length : Int) := of_decide_eq_true (by first | (with_reducible assumption) | assumption)
             obtain ⟨ad111, e111, hx111_0⟩ := Kd.at_string HR0.out x8_3 p111 q111
             have hw111_0 := hx111_0
             obtain rfl : ad104 = ad111 := (by injection e111)
             replace hx111_0 := (HB.out.cell (World.block_lt_of_cell? w _ hx111_0)).trans hx111_0
             replace p111 := eq_true p111
             replace q111 := eq_true q111
             refine start_ (n := 15) (S := fun w' => w'.cell? (ad104.add (x8_3).toNat) = some (.string (rdOf ByteArray.empty l0 x8_3)) ∧ w'.cell? (ad104.add (x8_3).toNat) = some (.string (rdOf ByteArray.empty l0 x8_3))) (ds := []) #[false, false, false, false, false, false, false, false, false, false, false, false, false, false, false] (by kernel_rfl) rfl rfl ⟨((HB.out.cell (World.block_lt_of_cell? w _ hw104_0)).trans hw104_0), ((HB.out.cell (World.block_lt_of_cell? w _ hw111_0)).trans hw111_0)⟩ (fun hHeld => ?_); refine with_tabW tiklaw2_WireTexts.tab14 tiklaw2_WireTexts.bits14 (fun HT_ HW_ => ?_)
             generalize wr.drew = w23 at HO_7 HB hx104_0 hx111_0 hHeld ⊢
             refine pure_ (i := 0) (N := some 55) (v := ?_) (a' := ?_) #[true, false, false, false, false, false, false, false, false, false, false, false, false, false, false] rfl rfl (any_of HT_.out (by kernel_rfl)) (fun _ _ _ h => h) (Or.inl ⟨by rfl, ?_⟩) ?_ ?_
             rotate_left
             ·intro w'
              go_simp
              with_reducible rfl
             rotate_left
             ·simp only [Act.put, List.setIfInBounds_toArray, List.set_cons_zero, List.set_cons_succ, i64_w, i32_w]
              rfl
             refine pure_ (i := 1) (N := some 56) (v := ?_) (a' := ?_) #[true, true, false, false, false, false, false, false, false, false, false, false, false, false, false] rfl rfl (any_of HT_.out (by kernel_rfl)) (fun _ _ _ h => h) (Or.inl ⟨by rfl, ?_⟩) ?_ ?_
             rotate_left
             ·intro w'
              go_simp
              with_reducible rfl
             rotate_left
             ·simp only [Act.put, List.setIfInBounds_toArray, List.set_cons_zero, List.set_cons_succ, i64_w, i32_w]
              rfl
             refine pure_ (i := 2) (N := some 57) (v := ?_) (a' := ?_) #[true, true, true, false, false, false, false, false, false, false, false, false, false, false, false] rfl rfl (any_of HT_.out (by kernel_rfl)) (fun _ _ _ h => h) (Or.inl ⟨by rfl, ?_⟩) ?_ ?_
             rotate_left
             ·intro w'
              go_simp
              with_reducible rfl
             rotate_left
             ·simp only [Act.put, List.setIfInBounds_toArray, List.set_cons_zero, List.set_cons_succ, i64_w, i32_w]
              rfl
             refine pure_ (i := 3) (N := some 58) (v := ?_) (a' := ?_) #[true, true, true, true, false, false, false, false, false, false, false, false, false, false, false] rfl rfl (any_of HT_.out (by kernel_rfl)) (fun _ _ _ h => h) (Or.inl ⟨by rfl, ?_⟩) ?_ ?_
             rotate_left
             ·intro w'
              go_simp
              with_reducible rfl
             rotate_left
             ·simp only [Act.put, List.setIfInBounds_toArray, List.set_cons_zero, List.set_cons_succ, i64_w, i32_w]
              rfl
             refine pure_ (i := 9) (N := some 64) (v := ?_) (a' := ?_) #[true, true, true, true, false, false, false, false, false, true, false, false, false, false, false] rfl rfl (any_of HT_.out (by kernel_rfl)) (fun _ _ _ h => h) (Or.inl ⟨by rfl, ?_⟩) ?_ ?_
             rotate_left
             ·intro w'
              go_simp
              with_reducible rfl
             rotate_left
             ·simp only [Act.put, List.setIfInBounds_toArray, List.set_cons_zero, List.set_cons_succ, i64_w, i32_w]
              rfl
             refine pure_ (i := 10) (N := some 65) (v := ?_) (a' := ?_) #[true, true, true, true, false, false, false, false, false, true, true, false, false, false, false] rfl rfl (any_of HT_.out (by kernel_rfl)) (fun _ _ _ h => h) (Or.inl ⟨by rfl, ?_⟩) ?_ ?_
             rotate_left
             ·intro w'
              go_simp
              with_reducible rfl
             rotate_left
             ·simp only [Act.put, List.setIfInBounds_toArray, List.set_cons_zero, List.set_cons_succ, i64_w, i32_w]
              rfl
             refine pure_ (i := 11) (N := some 66) (v := ?_) (a' := ?_) #[true, true, true, true, false, false, false, false, false, true, true, true, false, false, false] rfl rfl (any_of HT_.out (by kernel_rfl)) (fun _ _ _ h => h) (Or.inl ⟨by rfl, ?_⟩) ?_ ?_
             rotate_left
             ·intro w'
              go_simp
              with_reducible rfl
             rotate_left
             ·simp only [Act.put, List.setIfInBounds_toArray, List.set_cons_zero, List.set_cons_succ, i64_w, i32_w]
              rfl
             refine take_ (i := 4) (N := some 59) (v := ?_) (a' := ?_) #[true, true, true, true, true, false, false, false, false, true, true, true, false, false, false] rfl rfl (take_ofW HT_.out HW_.out (by kernel_rfl)) (fun _ _ _ h => h) (Or.inl ⟨by rfl, ?_⟩) hHeld ?_ ?_
             rotate_left
             ·rintro w' ⟨s0, s1⟩
              go_simp
              with_reducible rfl
             rotate_left
             ·simp only [Act.put, List.setIfInBounds_toArray, List.set_cons_zero, List.set_cons_succ, i64_w, i32_w]
              rfl
             refine pure_ (i := 5) (N := some 60) (v := ?_) (a' := ?_) #[true, true, true, true, true, true, false, false, false, true, true, true, false, false, false] rfl rfl (any_of HT_.out (by kernel_rfl)) (fun _ _ _ h => h) (Or.inl ⟨by rfl, ?_⟩) ?_ ?_
             rotate_left
             ·intro w'
              go_simp
              with_reducible rfl
             rotate_left
             ·simp only [Act.put, List.setIfInBounds_toArray, List.set_cons_zero, List.set_cons_succ, i64_w, i32_w]
              rfl
             refine pure_ (i := 6) (N := some 61) (v := ?_) (a' := ?_) #[true, true, true, true, true, true, true, false, false, true, true, true, false, false, false] rfl rfl (any_of HT_.out (by kernel_rfl)) (fun _ _ _ h => h) (Or.inl ⟨by rfl, ?_⟩) ?_ ?_
             rotate_left
             ·intro w'
              go_simp
              with_reducible rfl
             rotate_left
             ·simp only [Act.put, List.setIfInBounds_toArray, List.set_cons_zero, List.set_cons_succ, i64_w, i32_w]
              rfl
             refine take_ (i := 12) (N := some 67) (v := ?_) (a' := ?_) #[true, true, true, true, true, true, true, false, false, true, true, true, true, false, false] rfl rfl (take_ofW HT_.out HW_.out (by kernel_rfl)) (fun _ _ _ h => h) (Or.inl ⟨by rfl, ?_⟩) hHeld ?_ ?_
             rotate_left
             ·rintro w' ⟨s0, s1⟩
              go_simp
              with_reducible rfl
             rotate_left
             ·simp only [Act.put, List.setIfInBounds_toArray, List.set_cons_zero, List.set_cons_succ, i64_w, i32_w]
              rfl
             refine one_ (i := 7) (N := some 62) #[true, true, true, true, true, true, true, true, false, true, true, true, true, false, false] rfl rfl (one_of HT_.out (by kernel_rfl)) (by decide) (fun K hK => ?_)
             refine goes_ Try.func13 (by kernel_rfl) rfl #[.int .u64 (IntKind.u64.wrap (((rdOf ByteArray.empty l0 x8_3).size : Int)))] (by rfl) rfl rfl (by (try simp only [List.map_toArray, List.map_cons, List.map_nil]); first | done | rfl | (simp only [List.length_drop, List.length_take]; rfl)) ?_
             with_reducible refine (wire_Var.calls k3 (IntKind.u64.wrap (((rdOf ByteArray.empty l0 x8_3).size : Int))) t105 _ A20.out).mono ?_
             rintro e w24 ⟨v106, rfl, ho0, hb⟩
             refine ⟨_, rfl, ?_⟩
             have n0_ := Aside0.mk (Kd.R_elder' (by (with_reducible repeat (first | apply Kd.R_alloc | apply Kd.R_drewN | apply Kd.R_drew)); exact HO_7.out) (Kd.R_base ho0) hb)
             have n1_ := Aside0.mk (Kd.R_lower (Kd.R_new' ho0 (Kd.R_lt (by (with_reducible repeat (first | apply Kd.R_alloc | apply Kd.R_drewN | apply Kd.R_drew)); exact HO_7.out))) (below_size (by repeat (first | (with_reducible first | exact HB.out | apply below_alloc | apply pw_below_drewN | apply below_drew1) | exact HB.out))))
             have n2_ := Aside0.mk (below_step (by repeat (first | (with_reducible first | exact HB.out | apply below_alloc | apply pw_below_drewN | apply below_drew1) | exact HB.out)) hb)
             clear HO_7
             clear HB
             have HO_7 := n0_
             have HO107 := n1_
             have HB := n2_
             clear n0_ n1_ n2_
             (try clear hb)
             (try clear hb2)
             (try clear hk)
             (try clear hi)
             (try clear ho0)
             obtain ⟨Ao26, co26, eo26⟩ := Kd.R_slice HO107.out
             (first | subst eo26 | (injection eo26 with f1_ f2_ f3_; have f4_ := f1_.symm; have f5_ := f3_.symm; clear f1_ f2_ f3_; subst f4_; subst f5_))
             refine hK.out _ _ ⟨((HB.out.cell (World.block_lt_of_cell? w _ hw104_0)).trans hw104_0), ((HB.out.cell (World.block_lt_of_cell? w _ hw111_0)).trans hw111_0)⟩ (fun hHeld => ?_)
             clear hK K
             refine norm_ (a' := ?_) ?_ ?_
             rotate_left
             ·show Act.put _ (some 62) _ = _
              simp only [Act.put, List.setIfInBounds_toArray, List.set_cons_zero, List.set_cons_succ, i64_w, i32_w]
              rfl
             refine one_ (i := 8) (N := some 63) #[true, true, true, true, true, true, true, true, true, true, true, true, true, false, false] rfl rfl (one_of HT_.out (by kernel_rfl)) (by decide) (fun K hK => ?_)
             refine Kd.R_append_rows_step (Kd.int .u8) (w0 := w) w.heap.size (by rfl) (.tmp 55) (.tmp 62) 23 5 (.int .u8 0) 1 rfl Try.underlying23 info5 rfl (by decide) (by omega) u7 x7_3 t105 _ _ _ (fun k_ => some k_ ≠ (.slice Ao26 t105.length co26 : Value).ownBlock) (fun _ => False) rfl rfl ?aO ?aR (fun _ _ h => h) (fun _ h => h.elim) ?aF ?aB ?aS ?aL ?_
             (case aR => repeat (first | exact (Kd.R_reads' HO107.out).2.2 | (with_reducible refine Kd.C_alloc ?_ _) | (with_reducible refine Kd.C_drewN ?_ _) | (with_reducible refine Kd.C_drew ?_)))
             (case aB => exact (by repeat (first | (with_reducible first | exact HB.out | apply below_alloc | apply pw_below_drewN | apply below_drew1) | exact HB.out)))
             (case aF => exact (fun k_ hk => Kd.fresh' (Kd.R_lt (by (with_reducible repeat (first | apply Kd.R_alloc | apply Kd.R_drewN | apply Kd.R_drew)); exact HO107.out)) k_ hk))
             (case aO => exact (by (with_reducible repeat (first | apply Kd.R_alloc | apply Kd.R_drewN | apply Kd.R_drew)); exact Kd.R_mono HO_7.out (fun _ hk => hk.2)))
             (case aS => exact (below_size (by repeat (first | (with_reducible first | exact HB.out | apply below_alloc | apply pw_below_drewN | apply below_drew1) | exact HB.out))))
             (case aL => have := LMc21.out; omega)
             intro v109 w25 ho hb hg hat
             rw [← Ny108.out] at ho
             have n0_ := Aside0.mk (Kd.R_after (ok := (fun _ => True)) (by (with_reducible repeat (first | apply Kd.R_alloc | apply Kd.R_drewN | apply Kd.R_drew)); exact HO107.out) hg hat)
             have n1_ := Aside0.mk (hb)
             have n2_ := Aside0.mk (ho)
             clear HO107
             clear HB
             clear HO_7
             have HO107 := n0_
             have HB := n1_
             have HO110 := n2_
             clear n0_ n1_ n2_
             clear ho hb hg hat
             refine hK.out _ _ ⟨((HB.out.cell (World.block_lt_of_cell? w _ hw104_0)).trans hw104_0), ((HB.out.cell (World.block_lt_of_cell? w _ hw111_0)).trans hw111_0)⟩ (fun hHeld => ?_)
             clear hK K
             refine norm_ (a' := ?_) ?_ ?_
             rotate_left
             ·show Act.put _ (some 63) _ = _
              simp only [Act.put, List.setIfInBounds_toArray, List.set_cons_zero, List.set_cons_succ, i64_w, i32_w]
              rfl
             refine one_ (i := 13) (N := some 68) #[true, true, true, true, true, true, true, true, true, true, true, true, true, true, false] rfl rfl (one_of HT_.out (by kernel_rfl)) (by decide) (fun K hK => ?_)
             refine Kd.R_append_str_step (w0 := w) w.heap.size (by rfl) (.tmp 63) _ 23 9 5 rfl Try.underlying23 Try.underlying9 info5 v109 y108 (rdOf ByteArray.empty l0 x8_3) (fun k_ => some k_ ≠ (.slice Ao26 t105.length co26 : Value).ownBlock) rfl rfl ?aO ?aF ?aB ?aS ?aL ?_
             (case aB => exact (by repeat (first | (with_reducible first | exact HB.out | apply below_alloc | apply pw_below_drewN | apply below_drew1) | exact HB.out)))
             (case aF => exact (fun k_ hk => Kd.fresh' (Kd.R_lt (by (with_reducible repeat (first | apply Kd.R_alloc | apply Kd.R_drewN | apply Kd.R_drew)); exact HO107.out)) k_ hk))
             (case aO => exact (by (with_reducible repeat (first | apply Kd.R_alloc | apply Kd.R_drewN | apply Kd.R_drew)); exact HO110.out))
             (case aS => exact (below_size (by repeat (first | (with_reducible first | exact HB.out | apply below_alloc | apply pw_below_drewN | apply below_drew1) | exact HB.out))))
             (case aL => have := LMc22.out; omega)
             intro v113 w27 ho hb hg hat
             rw [← Ny112.out] at ho
             have n0_ := Aside0.mk (Kd.R_after (ok := (fun _ => True)) (by (with_reducible repeat (first | apply Kd.R_alloc | apply Kd.R_drewN | apply Kd.R_drew)); exact HO107.out) hg hat)
             have n1_ := Aside0.mk (hb)
             have n2_ := Aside0.mk (ho)
             clear HO107
             clear HB
             clear HO110
             have HO107 := n0_
             have HB := n1_
             have HO114 := n2_
             clear n0_ n1_ n2_
             clear ho hb hg hat
             refine hK.out _ _ ⟨((HB.out.cell (World.block_lt_of_cell? w _ hw104_0)).trans hw104_0), ((HB.out.cell (World.block_lt_of_cell? w _ hw111_0)).trans hw111_0)⟩ (fun hHeld => ?_)
             clear hK K
             refine norm_ (a' := ?_) ?_ ?_
             rotate_left
             ·show Act.put _ (some 68) _ = _
              simp only [Act.put, List.setIfInBounds_toArray, List.set_cons_zero, List.set_cons_succ, i64_w, i32_w]
              rfl
             refine pure_ (i := 14) (N := some 7) (v := ?_) (a' := ?_) #[true, true, true, true, true, true, true, true, true, true, true, true, true, true, true] rfl rfl (any_of HT_.out (by kernel_rfl)) (fun _ _ _ h => h) (Or.inl ⟨by rfl, ?_⟩) ?_ ?_
             rotate_left
             ·intro w'
              go_simp
              with_reducible rfl
             rotate_left
             ·simp only [Act.put, List.setIfInBounds_toArray, List.set_cons_zero, List.set_cons_succ, i64_w, i32_w]
              rfl
             refine done_ (done_of HT_.out (by kernel_rfl)) ?_
             try go_wp2
             go_roundg k3
             case measure => have := HJ4.out; have := HJ10.out; have := HK3.out; omega
             case rel => exact ⟨(y112), (wrap64 (x8_3 + 1)), (by first | rfl | (simp; done) | (simp [*]; done)), H', ⟨by have := HJ4.out; have := HJ10.out; have := HK3.out; omega⟩, ⟨by (with_reducible repeat (first | apply Kd.R_alloc | apply Kd.R_drewN | apply Kd.R_drew)); exact Kd.R_mono HO114.out (fun _ hk => trivial)⟩, ⟨by repeat (first | (with_reducible first | exact HB.out | apply below_alloc | apply pw_below_drewN | apply below_drew1) | exact HB.out)⟩⟩
            ·rw [if_neg c22] at H
             exact absurd H (by simp)
           ·rw [if_neg c21] at H
            exact absurd H (by simp)
          ·rw [if_neg c19] at H
           exact absurd H (by simp)
         ·rw [if_neg c18] at H
          have c18b0 : decide (x8_3 < (l0.length : Int)) = false := decide_eq_false c18
          clear c18
          replace H := Option.bind_eq_some_iff.mp H
          obtain ⟨⟨t115, t116, t117⟩, A280, H⟩ := H
          replace H : (if false = true then (some false) else (tiklaw2_WireTexts.l2 k3 l0 a1 0 t115 t116 t117)) = some r := H
          have A28 := Aside0.mk A280
          clear A280
          have H1 : (tiklaw2_WireTexts.l2 k3 l0 a1 0 t115 t116 t117) = some r := by first | (rw [if_neg (show ¬ (false = true) by decide)] at H; exact H) | exact (if_neg not_false).symm.trans H
          clear H
          have H := H1
          clear H1
          have H' := Aside0.mk H
          clear H
          obtain ⟨Ao29, co29, eo29⟩ := Kd.R_slice HO_7.out
          subst eo29
          go_wp2_with (first | ((with_reducible refine gate_callee (f := 20) rfl ?_); refine goesL_ (some 70) rfl rfl Try.func20 (by kernel_rfl) rfl #[.slice Ao29 x7_3.length co29] rfl (by (try simp only [List.map_toArray, List.map_cons, List.map_nil]); first | done | rfl | (simp only [List.length_drop, List.length_take]; rfl)) ?_; (with_reducible refine (newReader.calls _ _ x7_3 t115 t116 t117 w _ ?side1 ?side2 ?side3 A28.out).mono ?_); (case side1 => repeat (first | (with_reducible first | exact HB.out | apply below_alloc | apply pw_below_drewN | apply below_drew1) | exact HB.out)); (case side2 => repeat (first | exact (Kd.R_reads' HO_7.out).2.2 | (with_reducible refine Kd.C_alloc ?_ _) | (with_reducible refine Kd.C_drewN ?_ _) | (with_reducible refine Kd.C_drew ?_))); (case side3 => exact (Kd.R_reads' HO_7.out).2.1); rintro e w30 ⟨g118, rfl, hi, hb, hb2, hnew⟩; refine ⟨_, rfl, ?_⟩; have n0_ := Aside0.mk (Kd.R_below (by (with_reducible repeat (first | apply Kd.R_alloc | apply Kd.R_drewN | apply Kd.R_drew)); exact HO_7.out) hb2); have n1_ := Aside0.mk (hb); have n2_ := Aside0.mk (hi); clear HO_7; clear HB; have HO_7 := n0_; have HB := n1_; have HI118 := n2_; clear n0_ n1_ n2_; (try clear hb); (try clear hb2); (try clear hk); (try clear hi)))
          go_loopg [10] k3 (fun kq v10 w' => ∃ (x10_4 : Int) (x119001_4 : Int) (x119002_4 : Int), v10 = .int .i64 x10_4 ∧ Aside0 (tiklaw2_WireTexts.l2 kq l0 a1 x10_4 t115 x119001_4 x119002_4 = some r) ∧ Aside0 (kq ≤ k3) ∧ Aside0 (IsS57 w w' g118 t115 x119001_4 x119002_4) ∧ Aside0 (Below w.heap.size w w'))
          case atStart => exact ⟨(0), (t116), (t117), (by first | rfl | (simp; done) | (simp [*]; done)), H', ⟨Nat.le_refl _⟩, ⟨by repeat (first | (with_reducible first | exact HI118.out | apply IsS57.alloc | apply IsS57.drewN | apply IsS57.drew) | exact HI118.out)⟩, ⟨by repeat (first | (with_reducible first | exact HB.out | apply below_alloc | apply pw_below_drewN | apply below_drew1 | refine below_set ?_ (IsS57.ge HI118.out)) | exact HB.out)⟩⟩
          case round =>
           clear H'
           try clear c1
           try clear p1
           try clear q1
           try clear hx1
           try clear c2
           try clear p2
           try clear c4
           try clear p6
           try clear c7
           try clear c7b0
           try clear c8
           try clear c8b0
           try clear c9
           try clear c9b0
           try clear p10
           try clear q10
           try clear hx10
           try clear p11
           try clear q11
           try clear hx11
           try clear c12
           try clear c12b0
           try clear c12b1
           try clear c13
           try clear c13b0
           try clear c14
           try clear c14b0
           try clear c15
           try clear c18
           try clear c18b0
           try clear c19
           try clear c19b0
           try clear c20
           try clear c21
           try clear c22
           try clear hx102_0
           try clear hx104_0
           try clear hx111_0
           try clear p1
           try clear p10
           try clear p102
           try clear p104
           try clear p111
           try clear p2
           try clear p6
           try clear q1
           try clear q10
           try clear q102
           try clear q104
           try clear q111
           obtain ⟨x10_4, x119001_4, x119002_4, rfl, HA, HK4, HI118, HB⟩ := hrel
           cases gk with
           | zero => exact absurd HA.out (by simp [tiklaw2_WireTexts.l2])
           | succ k4 =>
            have H := HA.out
            clear HA
            simp only [tiklaw2_WireTexts.l2] at H
            by_cases c31 : x10_4 < (l0.length : Int)
            ·rw [if_pos c31] at H
             have c31b0 : decide (x10_4 < (l0.length : Int)) = true := decide_eq_true c31
             clear c31
             replace H := Option.bind_eq_some_iff.mp H
             obtain ⟨t122, A320, H⟩ := H
             replace H : ((wire_Reader_Text.f t115 x119001_4 x119002_4 a1).bind fun bt123 => (if 0 ≤ x10_4 then (if ((rdOf ByteArray.empty l0 x10_4).size : Int) > a1 then ((tiklaw2_first.f).bind fun t127 => (if t127 = true then (if bt123.1.toList = ([] : List UInt8) then ((kErr.f t115 bt123.2.1 bt123.2.2).bind fun t128 => (if t128 = 1 then ((kLeft.f t115 bt123.2.1 bt123.2.2).bind fun t129 => (if t129 = t122 then ((wire_Reader_Raw.f t115 bt123.2.1 bt123.2.2 1).bind fun bt130 => (if (bt130.1.length : Int) = 0 then ((wire_Reader_Num.f t115 bt130.2.1 bt130.2.2 5).bind fun bt135 => (if bt135.1 = 0 then ((kEnd.f t115 bt135.2.1 bt135.2.2).bind fun t138 => (some (t138 == 1))) else (some false))) else (some false))) else (some false))) else (some false))) else (some false)) else (some false))) else (if bt123.1.toList = (rdOf ByteArray.empty l0 x10_4).toList then (tiklaw2_WireTexts.l2 k4 l0 a1 (wrap64 (x10_4 + 1)) t115 bt123.2.1 bt123.2.2) else (some false))) else (none))) = some r := H
             have A32 := Aside0.mk A320
             clear A320
             replace H := Option.bind_eq_some_iff.mp H
             obtain ⟨⟨t123, t124, t125⟩, A330, H⟩ := H
             replace H : (if 0 ≤ x10_4 then (if ((rdOf ByteArray.empty l0 x10_4).size : Int) > a1 then ((tiklaw2_first.f).bind fun t127 => (if t127 = true then (if t123.toList = ([] : List UInt8) then ((kErr.f t115 t124 t125).bind fun t128 => (if t128 = 1 then ((kLeft.f t115 t124 t125).bind fun t129 => (if t129 = t122 then ((wire_Reader_Raw.f t115 t124 t125 1).bind fun bt130 => (if (bt130.1.length : Int) = 0 then ((wire_Reader_Num.f t115 bt130.2.1 bt130.2.2 5).bind fun bt135 => (if bt135.1 = 0 then ((kEnd.f t115 bt135.2.1 bt135.2.2).bind fun t138 => (some (t138 == 1))) else (some false))) else (some false))) else (some false))) else (some false))) else (some false)) else (some false))) else (if t123.toList = (rdOf ByteArray.empty l0 x10_4).toList then (tiklaw2_WireTexts.l2 k4 l0 a1 (wrap64 (x10_4 + 1)) t115 t124 t125) else (some false))) else (none)) = some r := H
             have A33 := Aside0.mk A330
             clear A330
             by_cases c34 : 0 ≤ x10_4
             ·rw [if_pos c34] at H
              have c34b0 : decide (0 ≤ x10_4) = true := decide_eq_true c34
              clear c34
              by_cases c35 : ((rdOf ByteArray.empty l0 x10_4).size : Int) > a1
              ·rw [if_pos c35] at H
               have c35b0 : decide (a1 < ((rdOf ByteArray.empty l0 x10_4).size : Int)) = true := decide_eq_true c35
               clear c35
               replace H := Option.bind_eq_some_iff.mp H
               obtain ⟨t127, A360, H⟩ := H
               replace H : (if t127 = true then (if t123.toList = ([] : List UInt8) then ((kErr.f t115 t124 t125).bind fun t128 => (if t128 = 1 then ((kLeft.f t115 t124 t125).bind fun t129 => (if t129 = t122 then ((wire_Reader_Raw.f t115 t124 t125 1).bind fun bt130 => (if (bt130.1.length : Int) = 0 then ((wire_Reader_Num.f t115 bt130.2.1 bt130.2.2 5).bind fun bt135 => (if bt135.1 = 0 then ((kEnd.f t115 bt135.2.1 bt135.2.2).bind fun t138 => (some (t138 == 1))) else (some false))) else (some false))) else (some false))) else (some false))) else (some false)) else (some false)) = some r := H
               have A36 := Aside0.mk A360
               clear A360
               by_cases c37 : t127 = true
               ·subst c37
                have H1 : (if t123.toList = ([] : List UInt8) then ((kErr.f t115 t124 t125).bind fun t128 => (if t128 = 1 then ((kLeft.f t115 t124 t125).bind fun t129 => (if t129 = t122 then ((wire_Reader_Raw.f t115 t124 t125 1).bind fun bt130 => (if (bt130.1.length : Int) = 0 then ((wire_Reader_Num.f t115 bt130.2.1 bt130.2.2 5).bind fun bt135 => (if bt135.1 = 0 then ((kEnd.f t115 bt135.2.1 bt135.2.2).bind fun t138 => (some (t138 == 1))) else (some false))) else (some false))) else (some false))) else (some false))) else (some false)) = some r := by rw [if_pos rfl] at H; exact H
                clear H
                have H := H1
                clear H1
                by_cases c38 : t123.toList = ([] : List UInt8)
                ·rw [if_pos c38] at H
                 have c38b0 : (t123.toList == ([] : List UInt8)) = true := beq_iff_eq.mpr c38
                 have c38b1 : (t123.toList != ([] : List UInt8)) = false := bne_eq_false_iff_eq.mpr c38
                 clear c38
                 replace H := Option.bind_eq_some_iff.mp H
                 obtain ⟨t128, A390, H⟩ := H
                 replace H : (if t128 = 1 then ((kLeft.f t115 t124 t125).bind fun t129 => (if t129 = t122 then ((wire_Reader_Raw.f t115 t124 t125 1).bind fun bt130 => (if (bt130.1.length : Int) = 0 then ((wire_Reader_Num.f t115 bt130.2.1 bt130.2.2 5).bind fun bt135 => (if bt135.1 = 0 then ((kEnd.f t115 bt135.2.1 bt135.2.2).bind fun t138 => (some (t138 == 1))) else (some false))) else (some false))) else (some false))) else (some false)) = some r := H
                 have A39 := Aside0.mk A390
                 clear A390
                 by_cases c40 : t128 = 1
                 ·rw [if_pos c40] at H
                  have c40b0 : (t128 == 1) = true := beq_iff_eq.mpr c40
                  have c40b1 : (t128 != 1) = false := bne_eq_false_iff_eq.mpr c40
                  clear c40
                  replace H := Option.bind_eq_some_iff.mp H
                  obtain ⟨t129, A410, H⟩ := H
                  replace H : (if t129 = t122 then ((wire_Reader_Raw.f t115 t124 t125 1).bind fun bt130 => (if (bt130.1.length : Int) = 0 then ((wire_Reader_Num.f t115 bt130.2.1 bt130.2.2 5).bind fun bt135 => (if bt135.1 = 0 then ((kEnd.f t115 bt135.2.1 bt135.2.2).bind fun t138 => (some (t138 == 1))) else (some false))) else (some false))) else (some false)) = some r := H
                  have A41 := Aside0.mk A410
                  clear A410
                  by_cases c42 : t129 = t122
                  ·rw [if_pos c42] at H
                   have c42b0 : (t129 == t122) = true := beq_iff_eq.mpr c42
                   have c42b1 : (t129 != t122) = false := bne_eq_false_iff_eq.mpr c42
                   clear c42
                   replace H := Option.bind_eq_some_iff.mp H
                   obtain ⟨⟨t130, t133, t134⟩, A430, H⟩ := H
                   replace H : (if (t130.length : Int) = 0 then ((wire_Reader_Num.f t115 t133 t134 5).bind fun bt135 => (if bt135.1 = 0 then ((kEnd.f t115 bt135.2.1 bt135.2.2).bind fun t138 => (some (t138 == 1))) else (some false))) else (some false)) = some r := H
                   have A43 := Aside0.mk A430
                   clear A430
                   by_cases c44 : (t130.length : Int) = 0
                   ·rw [if_pos c44] at H
                    have c44b0 : ((t130.length : Int) == 0) = true := beq_iff_eq.mpr c44
                    have c44b1 : ((t130.length : Int) != 0) = false := bne_eq_false_iff_eq.mpr c44
                    clear c44
                    replace H := Option.bind_eq_some_iff.mp H
                    obtain ⟨⟨t135, t136, t137⟩, A450, H⟩ := H
                    replace H : (if t135 = 0 then ((kEnd.f t115 t136 t137).bind fun t138 => (some (t138 == 1))) else (some false)) = some r := H
                    have A45 := Aside0.mk A450
                    clear A450
                    by_cases c46 : t135 = 0
                    ·rw [if_pos c46] at H
                     have c46b0 : (t135 == 0) = true := beq_iff_eq.mpr c46
                     have c46b1 : (t135 != 0) = false := bne_eq_false_iff_eq.mpr c46
                     clear c46
                     replace H := Option.bind_eq_some_iff.mp H
                     obtain ⟨t138, A470, H⟩ := H
                     replace H : (some (t138 == 1)) = some r := H
                     have A47 := Aside0.mk A470
                     clear A470
                     obtain rfl := Option.some.inj H
                     go_wp2_with (first | ((with_reducible refine gate_callee (f := 29) rfl ?_); refine goesL_ (some 80) rfl rfl Try.func29 (by kernel_rfl) rfl #[.pointer (some ⟨g118, 0, none⟩)] rfl (by (try simp only [List.map_toArray, List.map_cons, List.map_nil]); first | done | rfl | (simp only [List.length_drop, List.length_take]; rfl)) ?_; (with_reducible refine (kLeft.calls g118 t115 x119001_4 x119002_4 t122 w _ ?side1 ?side2 A32.out).mono ?_); (case side1 => repeat (first | (with_reducible first | exact HI118.out | apply IsS57.alloc | apply IsS57.drewN | apply IsS57.drew) | exact HI118.out)); (case side2 => repeat (first | (with_reducible first | exact HB.out | apply below_alloc | apply pw_below_drewN | apply below_drew1 | refine below_set ?_ (IsS57.ge HI118.out)) | exact HB.out)); rintro e w48 ⟨rfl, hi, hb, hk⟩; refine ⟨_, rfl, ?_⟩; have n0_ := Aside0.mk (hb); have n1_ := Aside0.mk (hi); clear HB; clear HI118; have HB := n0_; have HI118 := n1_; clear n0_ n1_; (try clear hb); (try clear hb2); (try clear hk); (try clear hi)) | ((with_reducible refine gate_callee (f := 27) rfl ?_); refine goesL_ (some 83) rfl rfl Try.func27 (by kernel_rfl) rfl #[.pointer (some ⟨g118, 0, none⟩), .int .i64 a1] rfl (by (try simp only [List.map_toArray, List.map_cons, List.map_nil]); first | done | rfl | (simp only [List.length_drop, List.length_take]; rfl)) ?_; (with_reducible refine (wire_Reader_Text.calls g118 t115 x119001_4 x119002_4 a1 t123 t124 t125 w _ ?side1 ?side2 A33.out).mono ?_); (case side1 => repeat (first | (with_reducible first | exact HI118.out | apply IsS57.alloc | apply IsS57.drewN | apply IsS57.drew) | exact HI118.out)); (case side2 => repeat (first | (with_reducible first | exact HB.out | apply below_alloc | apply pw_below_drewN | apply below_drew1 | refine below_set ?_ (IsS57.ge HI118.out)) | exact HB.out)); rintro e w49 ⟨rfl, hi, hb, hk⟩; refine ⟨_, rfl, ?_⟩; have n0_ := Aside0.mk (hb); have n1_ := Aside0.mk (hi); clear HB; clear HI118; have HB := n0_; have HI118 := n1_; clear n0_ n1_; (try clear hb); (try clear hb2); (try clear hk); (try clear hi); have p126 : 0 ≤ (x10_4 : Int) := of_decide_eq_true (by first | (with_reducible assumption) | assumption); have q126 : x10_4 < (l0.length : Int) := of_decide_eq_true (by first | (with_reducible assumption) | assumption); obtain ⟨ad126, e126, hx126_0⟩ := Kd.at_string HR0.out x10_4 p126 q126; cases e126; replace hx126_0 := (HB.out.cell (World.block_lt_of_cell? w _ hx126_0)).trans hx126_0; replace p126 := eq_true p126; replace q126 := eq_true q126) | ((with_reducible refine gate_callee (f := 9) rfl ?_); refine goesL_ (some 91) rfl rfl Try.func9 (by kernel_rfl) rfl #[] rfl (by (try simp only [List.map_toArray, List.map_cons, List.map_nil]); first | done | rfl | (simp only [List.length_drop, List.length_take]; rfl)) ?_; (with_reducible refine (tiklaw2_first.calls  true _ A36.out).mono ?_); rintro e w50 ⟨rfl, hb⟩; refine ⟨_, rfl, ?_⟩; have n0_ := Aside0.mk (IsS57.below (by repeat (first | (with_reducible first | exact HI118.out | apply IsS57.alloc | apply IsS57.drewN | apply IsS57.drew) | exact HI118.out)) hb); have n1_ := Aside0.mk (below_step (by repeat (first | (with_reducible first | exact HB.out | apply below_alloc | apply pw_below_drewN | apply below_drew1 | refine below_set ?_ (IsS57.ge HI118.out)) | exact HB.out)) hb); clear HI118; clear HB; have HI118 := n0_; have HB := n1_; clear n0_ n1_; (try clear hb); (try clear hb2); (try clear hk); (try clear hi)) | (go_at_call 23; (with_reducible refine (kErr.calls g118 t115 t124 t125 t128 w _ ?side1 ?side2 A39.out).mono ?_); (case side1 => repeat (first | (with_reducible first | exact HI118.out | apply IsS57.alloc | apply IsS57.drewN | apply IsS57.drew) | exact HI118.out)); (case side2 => repeat (first | (with_reducible first | exact HB.out | apply below_alloc | apply pw_below_drewN | apply below_drew1 | refine below_set ?_ (IsS57.ge HI118.out)) | exact HB.out)); rintro e w51 ⟨rfl, hi, hb, hk⟩; have n0_ := Aside0.mk (hb); have n1_ := Aside0.mk (hi); clear HB; clear HI118; have HB := n0_; have HI118 := n1_; clear n0_ n1_; (try clear hb); (try clear hb2); (try clear hk); (try clear hi)) | (go_at_call 29; (with_reducible refine (kLeft.calls g118 t115 t124 t125 t129 w _ ?side1 ?side2 A41.out).mono ?_); (case side1 => repeat (first | (with_reducible first | exact HI118.out | apply IsS57.alloc | apply IsS57.drewN | apply IsS57.drew) | exact HI118.out)); (case side2 => repeat (first | (with_reducible first | exact HB.out | apply below_alloc | apply pw_below_drewN | apply below_drew1 | refine below_set ?_ (IsS57.ge HI118.out)) | exact HB.out)); rintro e w52 ⟨rfl, hi, hb, hk⟩; have n0_ := Aside0.mk (hb); have n1_ := Aside0.mk (hi); clear HB; clear HI118; have HB := n0_; have HI118 := n1_; clear n0_ n1_; (try clear hb); (try clear hb2); (try clear hk); (try clear hi)) | (go_at_call 25; (with_reducible refine (wire_Reader_Raw.calls g118 t115 t124 t125 1 t130 t133 t134 w _ ?side1 ?side2 A43.out).mono ?_); (case side1 => repeat (first | (with_reducible first | exact HI118.out | apply IsS57.alloc | apply IsS57.drewN | apply IsS57.drew) | exact HI118.out)); (case side2 => repeat (first | (with_reducible first | exact HB.out | apply below_alloc | apply pw_below_drewN | apply below_drew1 | refine below_set ?_ (IsS57.ge HI118.out)) | exact HB.out)); rintro e w53 ⟨v131, rfl, ho0, hi, hb, hk⟩; have n0_ := Aside0.mk (Kd.R_lower ho0 (below_size (by repeat (first | (with_reducible first | exact HB.out | apply below_alloc | apply pw_below_drewN | apply below_drew1 | refine below_set ?_ (IsS57.ge HI118.out)) | exact HB.out)))); have n1_ := Aside0.mk (hb); have n2_ := Aside0.mk (hi); clear HB; clear HI118; have HO132 := n0_; have HB := n1_; have HI118 := n2_; clear n0_ n1_ n2_; (try clear hb); (try clear hb2); (try clear hk); (try clear hi); (try clear ho0); obtain ⟨Ao54, co54, eo54⟩ := Kd.R_slice HO132.out; subst eo54) | (go_at_call 21; (with_reducible refine (wire_Reader_Num.calls g118 t115 t133 t134 5 t135 t136 t137 w _ ?side1 ?side2 A45.out).mono ?_); (case side1 => repeat (first | (with_reducible first | exact HI118.out | apply IsS57.alloc | apply IsS57.drewN | apply IsS57.drew) | exact HI118.out)); (case side2 => repeat (first | (with_reducible first | exact HB.out | apply below_alloc | apply pw_below_drewN | apply below_drew1 | refine below_set ?_ (IsS57.ge HI118.out)) | exact HB.out)); rintro e w55 ⟨rfl, hi, hb, hk⟩; have n1_ := Aside0.mk (hb); have n2_ := Aside0.mk (hi); clear HB; clear HI118; have HB := n1_; have HI118 := n2_; clear n1_ n2_; (try clear hb); (try clear hb2); (try clear hk); (try clear hi)) | (go_at_call 22; (with_reducible refine (kEnd.calls g118 t115 t136 t137 t138 w _ ?side1 ?side2 A47.out).mono ?_); (case side1 => repeat (first | (with_reducible first | exact HI118.out | apply IsS57.alloc | apply IsS57.drewN | apply IsS57.drew) | exact HI118.out)); (case side2 => repeat (first | (with_reducible first | exact HB.out | apply below_alloc | apply pw_below_drewN | apply below_drew1 | refine below_set ?_ (IsS57.ge HI118.out)) | exact HB.out)); rintro e w56 ⟨rfl, hi, hb, hk⟩; have n1_ := Aside0.mk (hb); have n2_ := Aside0.mk (hi); clear HB; clear HI118; have HB := n1_; have HI118 := n2_; clear n1_ n2_; (try clear hb); (try clear hb2); (try clear hk); (try clear hi)))
                     go_ret
                     exact ⟨by first | rfl | (simp [errW_none, errW_some] <;> rfl) | (simp [*, errW_none, errW_some] <;> rfl), by repeat (first | (with_reducible first | exact HB.out | apply below_alloc | apply pw_below_drewN | apply below_drew1 | refine below_set ?_ (IsS57.ge HI118.out)) | exact HB.out)⟩
                    ·rw [if_neg c46] at H
                     have c46b0 : (t135 == 0) = false := beq_eq_false_iff_ne.mpr c46
                     have c46b1 : (t135 != 0) = true := bne_iff_ne.mpr c46
                     exact absurd ((Option.some.inj H).trans hr_.out) (by simp)
                   ·rw [if_neg c44] at H
                    have c44b0 : ((t130.length : Int) == 0) = false := beq_eq_false_iff_ne.mpr c44
                    have c44b1 : ((t130.length : Int) != 0) = true := bne_iff_ne.mpr c44
                    have c44b2 : ¬ (t130 = []) := fun h_ => c44 (by rw [h_]; rfl)
                    exact absurd ((Option.some.inj H).trans hr_.out) (by simp)
                  ·rw [if_neg c42] at H
                   have c42b0 : (t129 == t122) = false := beq_eq_false_iff_ne.mpr c42
                   have c42b1 : (t129 != t122) = true := bne_iff_ne.mpr c42
                   exact absurd ((Option.some.inj H).trans hr_.out) (by simp)
                 ·rw [if_neg c40] at H
                  have c40b0 : (t128 == 1) = false := beq_eq_false_iff_ne.mpr c40
                  have c40b1 : (t128 != 1) = true := bne_iff_ne.mpr c40
                  exact absurd ((Option.some.inj H).trans hr_.out) (by simp)
                ·rw [if_neg c38] at H
                 have c38b0 : (t123.toList == ([] : List UInt8)) = false := beq_eq_false_iff_ne.mpr c38
                 have c38b1 : (t123.toList != ([] : List UInt8)) = true := bne_iff_ne.mpr c38
                 exact absurd ((Option.some.inj H).trans hr_.out) (by simp)
               ·replace c37 := Bool.eq_false_iff.mpr c37
                subst c37
                have H1 : (some false) = some r := by rw [if_neg (show ¬ (false = true) by decide)] at H; exact H
                clear H
                have H := H1
                clear H1
                exact absurd ((Option.some.inj H).trans hr_.out) (by simp)
              ·rw [if_neg c35] at H
               have c35b0 : decide (a1 < ((rdOf ByteArray.empty l0 x10_4).size : Int)) = false := decide_eq_false c35
               clear c35
               by_cases c57 : t123.toList = (rdOf ByteArray.empty l0 x10_4).toList
               ·rw [if_pos c57] at H
                have c57b0 : (t123.toList == (rdOf ByteArray.empty l0 x10_4).toList) = true := beq_iff_eq.mpr c57
                have c57b1 : (t123.toList != (rdOf ByteArray.empty l0 x10_4).toList) = false := bne_eq_false_iff_eq.mpr c57
                clear c57
                have H' := Aside0.mk H
                clear H
                go_wp2_with (first | ((with_reducible refine gate_callee (f := 29) rfl ?_); refine goesL_ (some 80) rfl rfl Try.func29 (by kernel_rfl) rfl #[.pointer (some ⟨g118, 0, none⟩)] rfl (by (try simp only [List.map_toArray, List.map_cons, List.map_nil]); first | done | rfl | (simp only [List.length_drop, List.length_take]; rfl)) ?_; (with_reducible refine (kLeft.calls g118 t115 x119001_4 x119002_4 t122 w _ ?side1 ?side2 A32.out).mono ?_); (case side1 => repeat (first | (with_reducible first | exact HI118.out | apply IsS57.alloc | apply IsS57.drewN | apply IsS57.drew) | exact HI118.out)); (case side2 => repeat (first | (with_reducible first | exact HB.out | apply below_alloc | apply pw_below_drewN | apply below_drew1 | refine below_set ?_ (IsS57.ge HI118.out)) | exact HB.out)); rintro e w58 ⟨rfl, hi, hb, hk⟩; refine ⟨_, rfl, ?_⟩; have n0_ := Aside0.mk (hb); have n1_ := Aside0.mk (hi); clear HB; clear HI118; have HB := n0_; have HI118 := n1_; clear n0_ n1_; (try clear hb); (try clear hb2); (try clear hk); (try clear hi)) | ((with_reducible refine gate_callee (f := 27) rfl ?_); refine goesL_ (some 83) rfl rfl Try.func27 (by kernel_rfl) rfl #[.pointer (some ⟨g118, 0, none⟩), .int .i64 a1] rfl (by (try simp only [List.map_toArray, List.map_cons, List.map_nil]); first | done | rfl | (simp only [List.length_drop, List.length_take]; rfl)) ?_; (with_reducible refine (wire_Reader_Text.calls g118 t115 x119001_4 x119002_4 a1 t123 t124 t125 w _ ?side1 ?side2 A33.out).mono ?_); (case side1 => repeat (first | (with_reducible first | exact HI118.out | apply IsS57.alloc | apply IsS57.drewN | apply IsS57.drew) | exact HI118.out)); (case side2 => repeat (first | (with_reducible first | exact HB.out | apply below_alloc | apply pw_below_drewN | apply below_drew1 | refine below_set ?_ (IsS57.ge HI118.out)) | exact HB.out)); rintro e w59 ⟨rfl, hi, hb, hk⟩; refine ⟨_, rfl, ?_⟩; have n0_ := Aside0.mk (hb); have n1_ := Aside0.mk (hi); clear HB; clear HI118; have HB := n0_; have HI118 := n1_; clear n0_ n1_; (try clear hb); (try clear hb2); (try clear hk); (try clear hi); have p126 : 0 ≤ (x10_4 : Int) := of_decide_eq_true (by first | (with_reducible assumption) | assumption); have q126 : x10_4 < (l0.length : Int) := of_decide_eq_true (by first | (with_reducible assumption) | assumption); obtain ⟨ad126, e126, hx126_0⟩ := Kd.at_string HR0.out x10_4 p126 q126; cases e126; replace hx126_0 := (HB.out.cell (World.block_lt_of_cell? w _ hx126_0)).trans hx126_0; replace p126 := eq_true p126; replace q126 := eq_true q126; have p139 : 0 ≤ (x10_4 : Int) := of_decide_eq_true (by first | (with_reducible assumption) | assumption); have q139 : x10_4 < (l0.length : Int) := of_decide_eq_true (by first | (with_reducible assumption) | assumption); obtain ⟨ad139, e139, hx139_0⟩ := Kd.at_string HR0.out x10_4 p139 q139; obtain rfl : ad126 = ad139 := (by injection e139); replace hx139_0 := (HB.out.cell (World.block_lt_of_cell? w _ hx139_0)).trans hx139_0; replace p139 := eq_true p139; replace q139 := eq_true q139))
                go_roundg k4
                case measure => have := HJ4.out; have := HJ10.out; have := HK3.out; have := HK4.out; omega
                case rel => exact ⟨(wrap64 (x10_4 + 1)), (t124), (t125), (by first | rfl | (simp; done) | (simp [*]; done)), H', ⟨by have := HJ4.out; have := HJ10.out; have := HK3.out; have := HK4.out; omega⟩, ⟨by repeat (first | (with_reducible first | exact HI118.out | apply IsS57.alloc | apply IsS57.drewN | apply IsS57.drew) | exact HI118.out)⟩, ⟨by repeat (first | (with_reducible first | exact HB.out | apply below_alloc | apply pw_below_drewN | apply below_drew1 | refine below_set ?_ (IsS57.ge HI118.out)) | exact HB.out)⟩⟩
               ·rw [if_neg c57] at H
                have c57b0 : (t123.toList == (rdOf ByteArray.empty l0 x10_4).toList) = false := beq_eq_false_iff_ne.mpr c57
                have c57b1 : (t123.toList != (rdOf ByteArray.empty l0 x10_4).toList) = true := bne_iff_ne.mpr c57
                exact absurd ((Option.some.inj H).trans hr_.out) (by simp)
             ·rw [if_neg c34] at H
              exact absurd H (by simp)
            ·rw [if_neg c31] at H
             have c31b0 : decide (x10_4 < (l0.length : Int)) = false := decide_eq_false c31
             clear c31
             replace H := Option.bind_eq_some_iff.mp H
             obtain ⟨t119, A600, H⟩ := H
             replace H : (if t119 = true then ((kEnd.f t115 x119001_4 x119002_4).bind fun t120 => (if t120 = 0 then ((kLeft.f t115 x119001_4 x119002_4).bind fun t121 => (some (t121 == 0))) else (some false))) else (some false)) = some r := H
             have A60 := Aside0.mk A600
             clear A600
             by_cases c61 : t119 = true
             ·subst c61
              have H1 : ((kEnd.f t115 x119001_4 x119002_4).bind fun t120 => (if t120 = 0 then ((kLeft.f t115 x119001_4 x119002_4).bind fun t121 => (some (t121 == 0))) else (some false))) = some r := by rw [if_pos rfl] at H; exact H
              clear H
              have H := H1
              clear H1
              replace H := Option.bind_eq_some_iff.mp H
              obtain ⟨t120, A620, H⟩ := H
              replace H : (if t120 = 0 then ((kLeft.f t115 x119001_4 x119002_4).bind fun t121 => (some (t121 == 0))) else (some false)) = some r := H
              have A62 := Aside0.mk A620
              clear A620
              by_cases c63 : t120 = 0
              ·rw [if_pos c63] at H
               have c63b0 : (t120 == 0) = true := beq_iff_eq.mpr c63
               have c63b1 : (t120 != 0) = false := bne_eq_false_iff_eq.mpr c63
               clear c63
               replace H := Option.bind_eq_some_iff.mp H
               obtain ⟨t121, A640, H⟩ := H
               replace H : (some (t121 == 0)) = some r := H
               have A64 := Aside0.mk A640
               clear A640
               obtain rfl := Option.some.inj H
               go_wp2_with (first | ((with_reducible refine gate_callee (f := 9) rfl ?_); refine goesL_ (some 129) rfl rfl Try.func9 (by kernel_rfl) rfl #[] rfl (by (try simp only [List.map_toArray, List.map_cons, List.map_nil]); first | done | rfl | (simp only [List.length_drop, List.length_take]; rfl)) ?_; (with_reducible refine (tiklaw2_first.calls  true _ A60.out).mono ?_); rintro e w65 ⟨rfl, hb⟩; refine ⟨_, rfl, ?_⟩; have n0_ := Aside0.mk (IsS57.below (by repeat (first | (with_reducible first | exact HI118.out | apply IsS57.alloc | apply IsS57.drewN | apply IsS57.drew) | exact HI118.out)) hb); have n1_ := Aside0.mk (below_step (by repeat (first | (with_reducible first | exact HB.out | apply below_alloc | apply pw_below_drewN | apply below_drew1 | refine below_set ?_ (IsS57.ge HI118.out)) | exact HB.out)) hb); clear HI118; clear HB; have HI118 := n0_; have HB := n1_; clear n0_ n1_; (try clear hb); (try clear hb2); (try clear hk); (try clear hi)) | (go_at_call 22; (with_reducible refine (kEnd.calls g118 t115 x119001_4 x119002_4 t120 w _ ?side1 ?side2 A62.out).mono ?_); (case side1 => repeat (first | (with_reducible first | exact HI118.out | apply IsS57.alloc | apply IsS57.drewN | apply IsS57.drew) | exact HI118.out)); (case side2 => repeat (first | (with_reducible first | exact HB.out | apply below_alloc | apply pw_below_drewN | apply below_drew1 | refine below_set ?_ (IsS57.ge HI118.out)) | exact HB.out)); rintro e w66 ⟨rfl, hi, hb, hk⟩; have n0_ := Aside0.mk (hb); have n1_ := Aside0.mk (hi); clear HB; clear HI118; have HB := n0_; have HI118 := n1_; clear n0_ n1_; (try clear hb); (try clear hb2); (try clear hk); (try clear hi)) | (go_at_call 29; (with_reducible refine (kLeft.calls g118 t115 x119001_4 x119002_4 t121 w _ ?side1 ?side2 A64.out).mono ?_); (case side1 => repeat (first | (with_reducible first | exact HI118.out | apply IsS57.alloc | apply IsS57.drewN | apply IsS57.drew) | exact HI118.out)); (case side2 => repeat (first | (with_reducible first | exact HB.out | apply below_alloc | apply pw_below_drewN | apply below_drew1 | refine below_set ?_ (IsS57.ge HI118.out)) | exact HB.out)); rintro e w67 ⟨rfl, hi, hb, hk⟩; have n0_ := Aside0.mk (hb); have n1_ := Aside0.mk (hi); clear HB; clear HI118; have HB := n0_; have HI118 := n1_; clear n0_ n1_; (try clear hb); (try clear hb2); (try clear hk); (try clear hi)))
               go_ret
               exact ⟨by first | rfl | (simp [errW_none, errW_some] <;> rfl) | (simp [*, errW_none, errW_some] <;> rfl), by repeat (first | (with_reducible first | exact HB.out | apply below_alloc | apply pw_below_drewN | apply below_drew1 | refine below_set ?_ (IsS57.ge HI118.out)) | exact HB.out)⟩
              ·rw [if_neg c63] at H
               have c63b0 : (t120 == 0) = false := beq_eq_false_iff_ne.mpr c63
               have c63b1 : (t120 != 0) = true := bne_iff_ne.mpr c63
               exact absurd ((Option.some.inj H).trans hr_.out) (by simp)
             ·replace c61 := Bool.eq_false_iff.mpr c61
              subst c61
              have H1 : (some false) = some r := by rw [if_neg (show ¬ (false = true) by decide)] at H; exact H
              clear H
              have H := H1
              clear H1
              exact absurd ((Option.some.inj H).trans hr_.out) (by simp)
 ·replace c4 := Bool.eq_false_iff.mpr c4
  subst c4
  have H1 : (some false) = some r := by rw [if_neg (show ¬ (false = true) by decide)] at H; exact H
  clear H
  have H := H1
  clear H1
  exact absurd ((Option.some.inj H).trans hr_.out) (by simp)
end Go.Proofs.Ytabljieejnhefaa.PT
