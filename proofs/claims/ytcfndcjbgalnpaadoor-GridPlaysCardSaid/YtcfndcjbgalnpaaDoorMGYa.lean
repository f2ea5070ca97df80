/- Texts of this claim, put together. -/
import Derived.ProofKit
import Derived.OpenShut
import Derived.DataReads
import Derived.DataElems
import Derived.SizedLaws
import Derived.Laws.Cover2
import Derived.Test.YtcfndcjbgalnpaaDoorMGYWWords
import Derived.Test.YtcfndcjbgalnpaaDoorProg
import Derived.Below
import Derived.Deep.Draws
import Derived.Deep.AppendLies
import Derived.Maps.AppendAt
import Derived.OwnWalk
import Derived.Laws.BytesArg
import Derived.Laws.MakeOwn
import Derived.Laws.OwnMore
import Derived.Deep.OwnRows
import Derived.Tactics
import Derived.Lib.ConvBytes
import Derived.Laws.Slices
import Derived.WalkKit
import Derived.KernelRfl
import Derived.RowKit3
import Derived.Deep.LoopGhost
import Derived.Deep.QuietTactic
import Derived.BigQuiet
import Derived.WideLaws
import Derived.Deep.DeepCutAuto
import Derived.Deep.CutBlock
import Derived.Deep.RegionHeld3
import Derived.Laws.Rows
import Derived.Lib.AppendStr
import Derived.ArgAppend
import Derived.Laws.IdiomCopy
import Derived.OrdersHeld
import Derived.Laws.BitsLemmas
import Derived.RowKit
import Derived.Test.YtcfndcjbgalnpaaDoorMGYWLast
import Derived.Test.YtcfndcjbgalnpaaDoorMGYWTab
import Derived.Test.YtcfndcjbgalnpaaDoorMGYWApart
import Derived.Test.YtcfndcjbgalnpaaDoorMGYWFoot
import Derived.Test.YtcfndcjbgalnpaaDoorMGYWShare
import Derived.Test.YtcfndcjbgalnpaaDoorMGYWN
import Derived.Test.YtcfndcjbgalnpaaDoorMGYWEqStruct
import Derived.Test.YtcfndcjbgalnpaaDoorMGYWRepsOne
import Derived.Test.YtcfndcjbgalnpaaDoorMGYWMore
import Derived.Test.YtcfndcjbgalnpaaDoorRows
import Derived.LaidMore
import Derived.Stop.Joined
import Derived.WalkSpells
import Derived.WalkLawsBesides
import Derived.Laws.CopyOwn
import Derived.IntWalk
import Derived.Deep.RegionLaw
set_option linter.unusedVariables false
set_option linter.unusedSimpArgs false
namespace Go.Proofs.YtcfndcjbgalnpaaDoor.Opens
open Go.RowKit Go.Proofs.YtcfndcjbgalnpaaDoorW.PrintWords
variable {P : Program}
def Opens {α : Type} (P : Program) (t : TypeId) (d : Kd α) (Q : α → Prop) : Prop :=
  ∀ (H : Type) (enc : TypeId × Value → H) (w : World) (base : Nat) (spare : Nat → Bool) (held : Bool) (fuel : Nat) (cs : List Value) (x : DataW H × List MemPlace),
    DataW.trod enc P w base spare held fuel t cs = some x → ∃ a, d.K w a cs ∧ Q a
theorem o_int {t : TypeId} {k : IntKind} (h : P.underlying t = some (.int k)) : Opens P t (Kd.int k) (fun n => (Lit.int k n).wf = true) := by
  intro H enc w base spare held fuel cs x hx
  obtain ⟨n, rfl, _, hw⟩ := DataW.trod_int h hx
  exact ⟨n, rfl, hw⟩
theorem o_map {α β : Type} {t : TypeId} {d : Kd α} {Q : α → Prop} (h : Opens P t d Q) (f : β → α) (g : α → β) (hfg : ∀ x, f (g x) = x) : Opens P t (Kd.iso d f) (fun b => Q (f b)) := by
  intro H enc w base spare held fuel cs x hx
  obtain ⟨a, ha, hq⟩ := h H enc w base spare held fuel cs x hx
  exact ⟨g a, by show d.K w (f (g a)) cs; rw [hfg]; exact ha, by show Q (f (g a)); rw [hfg]; exact hq⟩
theorem mapM_get {α β : Type} {f : α → Option β} : ∀ {l : List α} {r : List β}, l.mapM f = some r → r.length = l.length ∧ ∀ (i : Nat) a, l[i]? = some a → ∃ b, f a = some b ∧ r[i]? = some b
  | [], r, h => by
    simp at h
    subst h
    exact ⟨rfl, fun i a h => by simp at h⟩
  | x :: l, r, h => by
    rw [List.mapM_cons] at h
    cases hx : f x with
    | none => simp [hx] at h
    | some y =>
      cases hl : l.mapM f with
      | none => simp [hx, hl] at h
      | some ys =>
        simp [hx, hl] at h
        subst h
        obtain ⟨h1, h2⟩ := mapM_get hl
        refine ⟨by simp [h1], fun i a ha => ?_⟩
        cases i with
        | zero =>
          simp at ha
          subst ha
          exact ⟨y, hx, by simp⟩
        | succ i => exact h2 i a (by simpa using ha)
theorem sized_any {H : Type} {enc : TypeId × Value → H} {W : World} {base : Nat} {spare : Nat → Bool} {held : Bool} {t e : TypeId} {a : Option Addr} {len cap : Nat} {d : DataW H} {ps : List MemPlace} {ts : List TypeId} {ds : List (DataW H)} {j : Nat}
    (hsz : (DataW.weightsEach P ts ds).all (· ≤ reachBytes) = true) (ht : ts[j]? = some t) (hd : ds[j]? = some d) (hu : P.underlying t = some (.slice e))
    (h : DataW.Trod enc P W base spare held t (.slice a len cap) d ps) : len * P.bytesOf e ≤ 140737488351232 := by
  obtain ⟨fuel, hf⟩ := h
  cases fuel with
  | zero => simp [DataW.trod] at hf
  | succ n =>
    unfold DataW.trod at hf
    rw [hu] at hf
    simp only [Value.cells] at hf
    split at hf
    all_goals first | (exfalso; simp_all; done) | skip
    · rename_i he
      simp at he
      obtain ⟨_, rfl, _⟩ := he
      simp
    · rename_i e' a' len' cap' he1 he2
      obtain rfl : e = e' := by simpa using he1
      simp at he2
      obtain ⟨rfl, rfl, rfl⟩ := he2
      split at hf
      · rw [Option.bind_eq_some_iff] at hf
        obtain ⟨elems, hm, hf⟩ := hf
        rw [Option.map_eq_some_iff] at hf
        obtain ⟨rest, _, hf⟩ := hf
        obtain ⟨hx, _⟩ := Prod.mk.inj hf
        subst hx
        have z := sized_slice hsz ht hd hu
        have hl := (mapM_get hm).1
        rw [List.length_range] at hl
        rw [List.length_map, List.length_map, hl] at z
        have : len * P.bytesOf e ≤ (len + rest.length) * P.bytesOf e := Nat.mul_le_mul_right _ (by omega)
        have z2 : reachBytes = 140737488351232 := rfl
        omega
      · cases hf
def OpensF {α : Type} (P : Program) (fs : List Field) (off : Nat) (d : Kd α) (Q : α → Prop) : Prop :=
  ∀ (H : Type) (enc : TypeId × Value → H) (w : World) (base : Nat) (spare : Nat → Bool) (held : Bool) (n : Nat) (cs : List Value), cs.length = off + d.sz →
    (∀ (i : Nat) (f : Field), fs[i]? = some f → ∃ x, DataW.trod enc P w base spare held n f.type ((cs.drop f.offset).take (P.cellsOf f.type)) = some x) → ∃ a, d.K w a (cs.drop off) ∧ Q a
theorem f_last {α : Type} {f : Field} {off : Nat} {d : Kd α} {Q : α → Prop} (ho : f.offset = off) (hc : P.cellsOf f.type = d.sz) (h : Opens P f.type d Q) : OpensF P [f] off d Q := by
  intro H enc w base spare held n cs hl hx
  obtain ⟨x, hx⟩ := hx 0 f rfl
  obtain ⟨a, ha, hq⟩ := h H enc w base spare held n _ x hx
  refine ⟨a, ?_, hq⟩
  rw [ho, hc, List.take_of_length_le (by simp; omega)] at ha
  exact ha
theorem f_cons {α β : Type} {f : Field} {fs : List Field} {off : Nat} {d : Kd α} {Q : α → Prop} {d' : Kd β} {Q' : β → Prop} (ho : f.offset = off) (hc : P.cellsOf f.type = d.sz) (h : Opens P f.type d Q)
    (hs : OpensF P fs (off + d.sz) d' Q') : OpensF P (f :: fs) off (Kd.pair d d') (fun x => Q x.1 ∧ Q' x.2) := by
  intro H enc w base spare held n cs hl hx
  have hl' : cs.length = off + (d.sz + d'.sz) := hl
  obtain ⟨x, hx0⟩ := hx 0 f rfl
  obtain ⟨a, ha, hq⟩ := h H enc w base spare held n _ x hx0
  obtain ⟨b, hb, hq'⟩ := hs H enc w base spare held n cs (by omega) (fun i f hf => hx (i + 1) f hf)
  rw [ho, hc] at ha
  refine ⟨(a, b), ⟨(cs.drop off).take d.sz, cs.drop (off + d.sz), ?_, ha, hb⟩, hq, hq'⟩
  rw [← List.drop_drop, List.take_append_drop]
theorem o_struct {α : Type} {t : TypeId} {fs : Array Field} {d : Kd α} {Q : α → Prop} (ht : P.underlying t = some (.struct fs)) (hc : P.cellsOf t = d.sz) (h : OpensF P fs.toList 0 d Q) : Opens P t d Q := by
  intro H enc w base spare held fuel cs x hx
  obtain ⟨xs, n, _, _, hl, hxs, hf⟩ := DataW.trod_struct ht hx
  have := h H enc w base spare held n cs (by omega) (fun i f hi => by
    rw [Array.getElem?_toList] at hi
    rw [hf i f hi]
    have : i < fs.size := by
      rcases Nat.lt_or_ge i fs.size with g | g
      · exact g
      · rw [Array.getElem?_eq_none g] at hi; cases hi
    exact ⟨_, List.getElem?_eq_getElem (by omega)⟩)
  simpa using this
theorem cells_get {w : World} {base : Nat} {a : Addr} {n : Nat} {cs : List Value} (h : w.cells? base a n = some cs) : cs.length = n ∧ ∀ (i : Nat) u, cs[i]? = some u → w.cell? (a.add i) = some u := by
  obtain ⟨_, hl, hi⟩ := World.cells?_some h
  refine ⟨hl, fun i u hu => ?_⟩
  have : i < n := by
    rcases Nat.lt_or_ge i cs.length with g | g
    · omega
    · rw [List.getElem?_eq_none g] at hu; cases hu
  rw [hi i this, hu]
theorem o_slice {α : Type} {t e : TypeId} {d : Kd α} {Q : α → Prop} (ht : P.underlying t = some (.slice e)) (hc : P.cellsOf e = d.sz) (h : Opens P e d Q) :
    Opens P t (Kd.slice e d) (fun l => l.length ≤ maxLen ∧ ∀ x ∈ l, Q x) := by
  intro H enc w base spare held fuel cs x hx
  cases fuel with
  | zero => simp [DataW.trod] at hx
  | succ n =>
    unfold DataW.trod at hx
    rw [ht] at hx
    split at hx
    all_goals first | (exfalso; simp_all; done) | skip
    · exact ⟨[], ⟨none, 0, rfl, Nat.le_refl _, Kd.C_nil _ _⟩, Nat.zero_le _, fun _ h => by cases h⟩
    · rename_i e' a len cap he
      obtain rfl : e = e' := by simpa using he
      split at hx
      · rename_i hb
        obtain ⟨hb1, hb2, hb3⟩ := hb
        rw [Option.bind_eq_some_iff] at hx
        obtain ⟨elems, hm, _⟩ := hx
        obtain ⟨hl, hg⟩ := mapM_get hm
        rw [List.length_range] at hl
        have each : ∀ i, i < len → ∃ c : List Value, c.length = d.sz ∧ (∃ a, d.K w a c ∧ Q a) ∧ ∀ j u, c[j]? = some u → w.cell? (a.add (i * d.sz + j)) = some u := by
          intro i hi
          obtain ⟨b, hb, _⟩ := hg i i (by simp [hi])
          rw [Option.bind_eq_some_iff] at hb
          obtain ⟨c, hc1, hc2⟩ := hb
          obtain ⟨hl1, hl2⟩ := cells_get hc1
          obtain ⟨z, hz, hq⟩ := h H enc w base spare held n c b hc2
          refine ⟨c, by omega, ⟨z, hz, hq⟩, fun j u hu => ?_⟩
          have := hl2 j u hu
          rw [hc] at this
          rw [← this, Addr.add_add]
        have pick : ∀ m, m ≤ len → ∃ l : List α, l.length = m ∧ (∀ x ∈ l, Q x) ∧ ∀ j p, l[j]? = some p → ∃ c : List Value, c.length = d.sz ∧ d.K w p c ∧ ∀ i u, c[i]? = some u → w.cell? (a.add (j * d.sz + i)) = some u := by
          intro m
          induction m with
          | zero => exact fun _ => ⟨[], rfl, fun _ h => by (cases h), fun j p h => by simp at h⟩
          | succ m ih =>
            intro hm
            obtain ⟨l, h1, h2, h3⟩ := ih (by omega)
            obtain ⟨c, c1, ⟨z, c2, c3⟩, c4⟩ := each m (by omega)
            refine ⟨l ++ [z], by simp [h1], ?_, ?_⟩
            · intro x hx
              rcases List.mem_append.1 hx with hx | hx
              · exact h2 x hx
              · rw [List.mem_singleton.1 hx]; exact c3
            · intro j p hp
              rcases Nat.lt_or_ge j m with g | g
              · rw [List.getElem?_append_left (by omega)] at hp
                exact h3 j p hp
              · rw [List.getElem?_append_right (by omega)] at hp
                have hj : j = m := by
                  rcases Nat.lt_or_ge (j - l.length) 1 with g2 | g2
                  · omega
                  · rw [List.getElem?_eq_none (by simpa using g2)] at hp; cases hp
                subst hj
                rw [h1, Nat.sub_self] at hp
                simp at hp
                subst hp
                exact ⟨c, c1, c2, c4⟩
        obtain ⟨l, l1, l2, l3⟩ := pick len (Nat.le_refl _)
        subst l1
        refine ⟨l, ⟨some a, cap, rfl, hb2, ⟨rfl, ?_, fun _ => ⟨a, rfl, l3⟩⟩⟩, Nat.le_trans hb2 hb3, l2⟩
        have : maxLen ≤ 9223372036854775807 := by unfold maxLen; omega
        omega
      · cases hx
theorem open_arg {α : Type} {t : TypeId} {d : Kd α} {Q : α → Prop} (h : Opens P t d Q) {H : Type} {enc : TypeId × Value → H} {w : World} {base : Nat} {spare : Nat → Bool} {held : Bool} {v : Value} {D : DataW H} {ps : List MemPlace}
    (hx : DataW.Trod enc P w base spare held t v D ps) : ∃ a, d.K w a v.cells.toList ∧ Q a := by
  obtain ⟨fuel, hf⟩ := hx
  exact h H enc w base spare held fuel _ _ hf
end Go.Proofs.YtcfndcjbgalnpaaDoor.Opens
namespace Go.Proofs.YtcfndcjbgalnpaaDoor.PA
open Go.RowKit Go.Proofs.YtcfndcjbgalnpaaDoorW.PrintWords Go.Proofs.YtcfndcjbgalnpaaDoorW.PrintLast Go.Proofs.YtcfndcjbgalnpaaDoorW.PrintMore
attribute [local go_sem] max2_int min2_int max_two min_two max_three min_three max_four min_four
set_option linter.unusedVariables false
set_option linter.unusedSimpArgs false
def errW : Option Int → Value
  | none => .nilIface
  | some c => .iface 0 (.int .i64 c)
theorem errW_none : errW none = .nilIface := rfl
theorem errW_some (c : Int) : errW (some c) = .iface 0 (.int .i64 c) := rfl
structure S73 where
  f0 : Int
  f1 : Int
def z73 : S73 := ⟨(0 : Int), (0 : Int)⟩
def k73 : Kd S73 := Kd.iso (Kd.pair (Kd.int .i32) (Kd.int .i32)) (fun x : S73 => (x.f0, x.f1))
theorem k73_open {w : World} {x : S73} {cs : List Value} (h : k73.K w x cs) : cs = [.int .i32 x.f0, .int .i32 x.f1] := by
  obtain ⟨_, _, rfl, rfl, rfl⟩ := h
  exact rfl
theorem k73_mk (w : World) (x : S73)  : k73.K w x [.int .i32 x.f0, .int .i32 x.f1] := ⟨[.int .i32 x.f0], [.int .i32 x.f1], rfl, rfl, rfl⟩
def rd_T73 (xs : List S73) (i : Int) : S73 := xs.getD i.toNat z73
theorem at_T73 {w : World} {A : Option Addr} {n : Nat} {xs : List S73} (h : Kd.C k73 w A n xs) (i : Int) (h0 : 0 ≤ i) (h1 : i < n) : ∃ ad , A = some ad ∧ w.cell? (ad.add (i.toNat * 2)) = some (.int .i32 (rd_T73 xs i).f0) ∧ w.cell? ⟨(ad.add (i.toNat * 2)).block, (ad.add (i.toNat * 2)).off + 1, none⟩ = some (.int .i32 (rd_T73 xs i).f1) := by
  obtain ⟨ad, c, e, _, hK, hc0⟩ := Kd.C_get h z73 i h0 h1
  have hc : ∀ j u, c[j]? = some u → w.cell? (ad.add (i.toNat * 2 + j)) = some u := hc0
  obtain rfl := k73_open hK
  exact ⟨ad, e, hc 0 _ rfl, by rw [← add_field _ _ 1 (by omega)]; exact hc 1 _ rfl⟩
end Go.Proofs.YtcfndcjbgalnpaaDoor.PA
namespace Go.Proofs.YtcfndcjbgalnpaaDoor.PA
open Go.RowKit Go.Proofs.YtcfndcjbgalnpaaDoorW.PrintWords Go.Proofs.YtcfndcjbgalnpaaDoorW.PrintLast Go.Proofs.YtcfndcjbgalnpaaDoorW.PrintMore
attribute [local go_sem] max2_int min2_int max_two min_two max_three min_three max_four min_four
set_option linter.unusedVariables false
set_option linter.unusedSimpArgs false
def cell_among.l0 : Nat → Int → List (S73) → Int → Int → Option (Bool)
  | 0, _, _, _, _ => none
  | k + 1, x0, x7, x8, x9 => if x9 < x8 then (if 0 ≤ x9 then (if x9 < (x7.length : Int) then (if x0 ≥ ((rd_T73 x7 x9).f0) then (if x0 ≤ ((rd_T73 x7 x9).f1) then (some true) else (cell_among.l0 k x0 x7 x8 (wrap64 (x9 + 1)))) else (cell_among.l0 k x0 x7 x8 (wrap64 (x9 + 1)))) else (none)) else (none)) else (some false)
def cell_among.f (k : Nat) (a0 : Int) (l1 : List (S73)) : Option (Bool) := cell_among.l0 k a0 l1 (l1.length : Int) 0
set_option maxHeartbeats 8000000 in
set_option maxRecDepth 100000 in
theorem cell_among.calls (k : Nat) (a0 : Int) (A1 : Option Addr) (c1 : Nat) (l1 : List (S73)) (r : Bool) (w : World) (hr1 : Kd.C k73 w A1 l1.length l1) (hc1 : l1.length ≤ c1) (h : cell_among.f k a0 l1 = some r) :
    Calls Tryd.prog 39 #[.int .i32 a0, .slice A1 l1.length c1] w fun e w' => e = .returned (.bool r) ∧ Below w.heap.size w w' := by
  have hu73 := Tryd.underlying73
  have HR1 := Aside0.mk hr1
  have HC1 := Aside0.mk hc1
  clear hr1 hc1
  have HB := Aside0.mk (Below.refl w.heap.size w)
  have H : (cell_among.l0 k a0 l1 (l1.length : Int) 0) = some r := h
  clear h
  have H' := Aside0.mk H
  clear H
  go_enter Tryd.func39, Tryd.ntmps39
  go_wp2
  go_loopg [9] k (fun kq v9 w' => ∃ (x9_1 : Int), v9 = .int .i64 x9_1 ∧ Aside0 (cell_among.l0 kq a0 l1 (l1.length : Int) x9_1 = some r) ∧ Aside0 (kq ≤ k) ∧ Aside0 (Below w.heap.size w w'))
  case atStart => exact ⟨(0), (by first | rfl | (simp; done) | (simp [*]; done)), H', ⟨Nat.le_refl _⟩, ⟨by repeat (first | (with_reducible first | exact HB.out | apply below_alloc | apply pw_below_drewN | apply below_drew1) | exact HB.out)⟩⟩
  case round =>
    clear H'
    try clear c1
    try clear p2
    obtain ⟨x9_1, rfl, HA, HK1, HB⟩ := hrel
    cases gk with
    | zero => exact absurd HA.out (by simp [cell_among.l0])
    | succ k1 =>
      have H := HA.out
      clear HA
      simp only [cell_among.l0] at H
      by_cases c3 : x9_1 < (l1.length : Int)
      · rw [if_pos c3] at H
        have c3b0 : decide (x9_1 < (l1.length : Int)) = true := decide_eq_true c3
        clear c3
        by_cases c4 : 0 ≤ x9_1
        · rw [if_pos c4] at H
          have c4b0 : decide (0 ≤ x9_1) = true := decide_eq_true c4
          clear c4
          by_cases c5 : x9_1 < (l1.length : Int)
          · rw [if_pos c5] at H
            have c5b0 : decide (x9_1 < (l1.length : Int)) = true := decide_eq_true c5
            clear c5
            by_cases c6 : a0 ≥ ((rd_T73 l1 x9_1).f0)
            · rw [if_pos c6] at H
              have c6b0 : decide (((rd_T73 l1 x9_1).f0) ≤ a0) = true := decide_eq_true c6
              clear c6
              by_cases c7 : a0 ≤ ((rd_T73 l1 x9_1).f1)
              · rw [if_pos c7] at H
                have c7b0 : decide (a0 ≤ ((rd_T73 l1 x9_1).f1)) = true := decide_eq_true c7
                clear c7
                obtain rfl := Option.some.inj H
                have p101 : 0 ≤ (x9_1 : Int) := of_decide_eq_true (by first | (with_reducible assumption) | assumption)
                have q101 : x9_1 < (l1.length : Int) := of_decide_eq_true (by first | (with_reducible assumption) | assumption)
                obtain ⟨ad101, e101, hx101_0, hx101_1⟩ := at_T73 HR1.out x9_1 p101 q101
                cases e101
                replace hx101_0 := (HB.out.cell (World.block_lt_of_cell? w _ hx101_0)).trans hx101_0
                replace hx101_1 := (HB.out.cell (World.block_lt_of_cell? w _ hx101_1)).trans hx101_1
                replace p101 := eq_true p101
                replace q101 := eq_true q101
                go_wp2_with (first | ((with_reducible refine gate_dst (N := 6) rfl ?_); refine box_event ?hg (N := 6) ?hd (cs := #[.int .i32 0, .int .i32 0]) (t := 73) ?hr ?_; (case hd => rfl); (case hg => rfl); (case hr => first | (go_simp; done) | (go_simp; rfl)); intro gb102 hg w8 hbox hb; have n0_ := Aside0.mk (below_step (by repeat (first | (with_reducible first | exact HB.out | apply below_alloc | apply pw_below_drewN | apply below_drew1) | exact HB.out)) hb); have n1_ := Aside0.mk (hbox); have n2_ := Aside0.mk ((by rw [hg]; exact (below_size (by repeat (first | (with_reducible first | exact HB.out | apply below_alloc | apply pw_below_drewN | apply below_drew1) | exact HB.out))) : w.heap.size ≤ gb102)); have n3_ := Aside0.mk ((by rw [hg]; exact (below_size (by repeat (first | (with_reducible first | exact HB.out | apply below_alloc | apply pw_below_drewN | apply below_drew1) | exact HB.out))) : w.heap.size ≤ gb102)); clear HB; have HB := n0_; have BK102 := n1_; have GW102 := n2_; have GE102 := n3_; clear n0_ n1_ n2_ n3_; clear hb hbox hg; have hcz9_0 : w8.cell? ⟨gb102, 0, none⟩ = some (.int .i32 0) := (blk_cell BK102.out 0).trans rfl; have hcz9_1 : w8.cell? ⟨gb102, 1, none⟩ = some (.int .i32 0) := (blk_cell BK102.out 1).trans rfl; have hfz9_0 := blk_frozen BK102.out 0; have hfz9_1 := blk_frozen BK102.out 1))
                go_ret
                exact ⟨by first | rfl | (simp [errW_none, errW_some] <;> rfl) | (simp [*, errW_none, errW_some] <;> rfl), by repeat (first | (with_reducible first | exact HB.out | apply below_alloc | apply pw_below_drewN | apply below_drew1 | refine below_set ?_ GE102.out) | exact HB.out)⟩
              · rw [if_neg c7] at H
                have c7b0 : decide (a0 ≤ ((rd_T73 l1 x9_1).f1)) = false := decide_eq_false c7
                clear c7
                have H' := Aside0.mk H
                clear H
                have p101 : 0 ≤ (x9_1 : Int) := of_decide_eq_true (by first | (with_reducible assumption) | assumption)
                have q101 : x9_1 < (l1.length : Int) := of_decide_eq_true (by first | (with_reducible assumption) | assumption)
                obtain ⟨ad101, e101, hx101_0, hx101_1⟩ := at_T73 HR1.out x9_1 p101 q101
                cases e101
                replace hx101_0 := (HB.out.cell (World.block_lt_of_cell? w _ hx101_0)).trans hx101_0
                replace hx101_1 := (HB.out.cell (World.block_lt_of_cell? w _ hx101_1)).trans hx101_1
                replace p101 := eq_true p101
                replace q101 := eq_true q101
                go_wp2_with (first | ((with_reducible refine gate_dst (N := 6) rfl ?_); refine box_event ?hg (N := 6) ?hd (cs := #[.int .i32 0, .int .i32 0]) (t := 73) ?hr ?_; (case hd => rfl); (case hg => rfl); (case hr => first | (go_simp; done) | (go_simp; rfl)); intro gb102 hg w10 hbox hb; have n0_ := Aside0.mk (below_step (by repeat (first | (with_reducible first | exact HB.out | apply below_alloc | apply pw_below_drewN | apply below_drew1) | exact HB.out)) hb); have n1_ := Aside0.mk (hbox); have n2_ := Aside0.mk ((by rw [hg]; exact (below_size (by repeat (first | (with_reducible first | exact HB.out | apply below_alloc | apply pw_below_drewN | apply below_drew1) | exact HB.out))) : w.heap.size ≤ gb102)); have n3_ := Aside0.mk ((by rw [hg]; exact (below_size (by repeat (first | (with_reducible first | exact HB.out | apply below_alloc | apply pw_below_drewN | apply below_drew1) | exact HB.out))) : w.heap.size ≤ gb102)); clear HB; have HB := n0_; have BK102 := n1_; have GW102 := n2_; have GE102 := n3_; clear n0_ n1_ n2_ n3_; clear hb hbox hg; have hcz11_0 : w10.cell? ⟨gb102, 0, none⟩ = some (.int .i32 0) := (blk_cell BK102.out 0).trans rfl; have hcz11_1 : w10.cell? ⟨gb102, 1, none⟩ = some (.int .i32 0) := (blk_cell BK102.out 1).trans rfl; have hfz11_0 := blk_frozen BK102.out 0; have hfz11_1 := blk_frozen BK102.out 1))
                go_roundg k1
                case measure => have := HK1.out; omega
                case rel => exact ⟨(wrap64 (x9_1 + 1)), (by first | rfl | (simp; done) | (simp [*]; done)), H', ⟨by have := HK1.out; omega⟩, ⟨by repeat (first | (with_reducible first | exact HB.out | apply below_alloc | apply pw_below_drewN | apply below_drew1 | refine below_set ?_ GE102.out) | exact HB.out)⟩⟩
            · rw [if_neg c6] at H
              have c6b0 : decide (((rd_T73 l1 x9_1).f0) ≤ a0) = false := decide_eq_false c6
              clear c6
              have H' := Aside0.mk H
              clear H
              have p101 : 0 ≤ (x9_1 : Int) := of_decide_eq_true (by first | (with_reducible assumption) | assumption)
              have q101 : x9_1 < (l1.length : Int) := of_decide_eq_true (by first | (with_reducible assumption) | assumption)
              obtain ⟨ad101, e101, hx101_0, hx101_1⟩ := at_T73 HR1.out x9_1 p101 q101
              cases e101
              replace hx101_0 := (HB.out.cell (World.block_lt_of_cell? w _ hx101_0)).trans hx101_0
              replace hx101_1 := (HB.out.cell (World.block_lt_of_cell? w _ hx101_1)).trans hx101_1
              replace p101 := eq_true p101
              replace q101 := eq_true q101
              go_wp2_with (first | ((with_reducible refine gate_dst (N := 6) rfl ?_); refine box_event ?hg (N := 6) ?hd (cs := #[.int .i32 0, .int .i32 0]) (t := 73) ?hr ?_; (case hd => rfl); (case hg => rfl); (case hr => first | (go_simp; done) | (go_simp; rfl)); intro gb102 hg w12 hbox hb; have n0_ := Aside0.mk (below_step (by repeat (first | (with_reducible first | exact HB.out | apply below_alloc | apply pw_below_drewN | apply below_drew1) | exact HB.out)) hb); have n1_ := Aside0.mk (hbox); have n2_ := Aside0.mk ((by rw [hg]; exact (below_size (by repeat (first | (with_reducible first | exact HB.out | apply below_alloc | apply pw_below_drewN | apply below_drew1) | exact HB.out))) : w.heap.size ≤ gb102)); have n3_ := Aside0.mk ((by rw [hg]; exact (below_size (by repeat (first | (with_reducible first | exact HB.out | apply below_alloc | apply pw_below_drewN | apply below_drew1) | exact HB.out))) : w.heap.size ≤ gb102)); clear HB; have HB := n0_; have BK102 := n1_; have GW102 := n2_; have GE102 := n3_; clear n0_ n1_ n2_ n3_; clear hb hbox hg; have hcz13_0 : w12.cell? ⟨gb102, 0, none⟩ = some (.int .i32 0) := (blk_cell BK102.out 0).trans rfl; have hcz13_1 : w12.cell? ⟨gb102, 1, none⟩ = some (.int .i32 0) := (blk_cell BK102.out 1).trans rfl; have hfz13_0 := blk_frozen BK102.out 0; have hfz13_1 := blk_frozen BK102.out 1))
              go_roundg k1
              case measure => have := HK1.out; omega
              case rel => exact ⟨(wrap64 (x9_1 + 1)), (by first | rfl | (simp; done) | (simp [*]; done)), H', ⟨by have := HK1.out; omega⟩, ⟨by repeat (first | (with_reducible first | exact HB.out | apply below_alloc | apply pw_below_drewN | apply below_drew1 | refine below_set ?_ GE102.out) | exact HB.out)⟩⟩
          · rw [if_neg c5] at H
            exact absurd H (by simp)
        · rw [if_neg c4] at H
          exact absurd H (by simp)
      · rw [if_neg c3] at H
        have c3b0 : decide (x9_1 < (l1.length : Int)) = false := decide_eq_false c3
        clear c3
        obtain rfl := Option.some.inj H
        go_wp2
        go_ret
        exact ⟨by first | rfl | (simp [errW_none, errW_some] <;> rfl) | (simp [*, errW_none, errW_some] <;> rfl), by repeat (first | (with_reducible first | exact HB.out | apply below_alloc | apply pw_below_drewN | apply below_drew1) | exact HB.out)⟩
end Go.Proofs.YtcfndcjbgalnpaaDoor.PA
namespace Go.Proofs.YtcfndcjbgalnpaaDoor.Hand
open Go.RowKit Go.Proofs.YtcfndcjbgalnpaaDoorW.PrintWords Go.Proofs.YtcfndcjbgalnpaaDoorW.PrintLast Go.Proofs.YtcfndcjbgalnpaaDoorW.PrintMore
open Go.Proofs.YtcfndcjbgalnpaaDoor.PA
def noneL : List S73 := [⟨0, 31⟩, ⟨127, 159⟩, ⟨768, 879⟩, ⟨55296, 57343⟩]
def wideL : List S73 := [⟨4352, 4447⟩, ⟨11904, 42191⟩, ⟨44032, 55203⟩, ⟨63744, 64255⟩, ⟨65072, 65135⟩, ⟨65280, 65376⟩, ⟨65504, 65510⟩, ⟨127744, 128591⟩, ⟨129280, 129535⟩, ⟨131072, 262141⟩]
def TabW (w : World) : Prop := 2 ≤ w.heap.size ∧ Kd.C k73 w (some ⟨0, 0, none⟩) 4 noneL ∧ Kd.C k73 w (some ⟨1, 0, none⟩) 10 wideL
theorem tabAt {w W : World} (h : TabW w) (hb : Below w.heap.size w W) : TabW W :=
  ⟨Nat.le_trans h.1 hb.size, Kd.C_below h.2.1 hb, Kd.C_below h.2.2 hb⟩
def inL (l : List S73) (r : Int) : Bool := l.any fun s => decide (s.f0 ≤ r) && decide (r ≤ s.f1)
def wd (r : Int) : Int := if r < 0 ∨ r > 1114111 ∨ inL noneL r = true then 0 else if inL wideL r = true then 2 else 1
def cell_Width.f (a0 : Int) : Option Int := some (wd a0)
theorem l0_any (r : Int) (l : List S73) (hl : l.length ≤ 100) : ∀ (d k : Nat) (i : Nat), i + d = l.length → d < k → cell_among.l0 k r l (l.length : Int) (i : Int) = some (inL (l.drop i) r) := by
  intro d
  induction d with
  | zero =>
    intro k i hi hk
    obtain ⟨k, rfl⟩ : ∃ m, k = m + 1 := ⟨k - 1, by omega⟩
    simp only [cell_among.l0]
    rw [if_neg (by omega), List.drop_of_length_le (by omega)]
    rfl
  | succ d ih =>
    intro k i hi hk
    obtain ⟨k, rfl⟩ : ∃ m, k = m + 1 := ⟨k - 1, by omega⟩
    have hlt : i < l.length := by omega
    have hw : wrap64 ((i : Int) + 1) = ((i + 1 : Nat) : Int) := by unfold wrap64; omega
    have hd : l.drop i = l[i] :: l.drop (i + 1) := List.drop_eq_getElem_cons hlt
    have hr : rd_T73 l (i : Int) = l[i] := by simp [rd_T73, hlt]
    simp only [cell_among.l0]
    rw [if_pos (by omega), if_pos (by omega), if_pos (by omega), hr, hw, ih k (i + 1) (by omega) (by omega), hd]
    have hc : inL (l[i] :: l.drop (i + 1)) r = ((decide (l[i].f0 ≤ r) && decide (r ≤ l[i].f1)) || inL (l.drop (i + 1)) r) := rfl
    rw [hc]
    by_cases h1 : r ≥ l[i].f0
    · rw [if_pos h1]
      by_cases h2 : r ≤ l[i].f1
      · rw [if_pos h2]; simp [h1, h2]
      · rw [if_neg h2]; simp [h2]
    · rw [if_neg h1]
      have : ¬ l[i].f0 ≤ r := h1
      simp [this]
theorem among_any (r : Int) (l : List S73) (hl : l.length ≤ 100) : cell_among.f 200 r l = some (inL l r) := by
  have := l0_any r l hl l.length 200 0 (by omega) (by omega)
  simpa [cell_among.f] using this
theorem among_none (r : Int) (w : World) (h : TabW w) : Calls Tryd.prog 39 #[.int .i32 r, .slice (some ⟨0, 0, none⟩) 4 4] w fun e w' => e = .returned (.bool (inL noneL r)) ∧ Below w.heap.size w w' :=
  cell_among.calls 200 r (some ⟨0, 0, none⟩) 4 noneL _ w h.2.1 (by decide) (among_any r noneL (by decide))
theorem among_wide (r : Int) (w : World) (h : TabW w) : Calls Tryd.prog 39 #[.int .i32 r, .slice (some ⟨1, 0, none⟩) 10 10] w fun e w' => e = .returned (.bool (inL wideL r)) ∧ Below w.heap.size w w' :=
  cell_among.calls 200 r (some ⟨1, 0, none⟩) 10 wideL _ w h.2.2 (by decide) (among_any r wideL (by decide))
set_option maxHeartbeats 1000000 in
theorem cell_Width.calls (a0 : Int) (r : Int) (w : World) (hT : TabW w) (h : cell_Width.f a0 = some r) :
    Calls Tryd.prog 15 #[.int .i32 a0] w fun e w' => e = .returned (.int .i64 r) ∧ Below w.heap.size w w' := by
  obtain rfl : wd a0 = r := Option.some.inj h
  clear h
  have HT := Aside0.mk hT
  clear hT
  by_cases h1 : a0 < 0
  · have e : wd a0 = 0 := if_pos (.inl h1)
    rw [e]
    clear e
    go_enter Tryd.func15, Tryd.ntmps15
    go_wp2
    go_ret
    exact ⟨rfl, Below.refl _ _⟩
  by_cases h2 : a0 > 1114111
  · have e : wd a0 = 0 := if_pos (.inr (.inl h2))
    rw [e]
    clear e
    go_enter Tryd.func15, Tryd.ntmps15
    go_wp2
    go_ret
    exact ⟨rfl, Below.refl _ _⟩
  cases h3 : inL noneL a0 with
  | true =>
    have e : wd a0 = 0 := if_pos (.inr (.inr h3))
    rw [e]
    clear e
    have H3 := Aside0.mk h3
    clear h3
    go_enter Tryd.func15, Tryd.ntmps15
    go_wp2_with fail
    refine (among_none a0 _ HT.out).mono ?_
    rintro e w' ⟨rfl, hb⟩
    rw [H3.out]
    go_wp2_with fail
    go_ret
    exact ⟨rfl, hb⟩
  | false =>
    cases h4 : inL wideL a0 with
    | true =>
      have e : wd a0 = 2 := by unfold wd; rw [if_neg (by rw [h3]; simp; omega), if_pos h4]
      rw [e]
      clear e
      have H3 := Aside0.mk h3
      clear h3
      have H4 := Aside0.mk h4
      clear h4
      go_enter Tryd.func15, Tryd.ntmps15
      go_wp2_with fail
      refine (among_none a0 _ HT.out).mono ?_
      rintro e w' ⟨rfl, hb⟩
      rw [H3.out]
      go_wp2_with fail
      refine (among_wide a0 _ (tabAt HT.out hb)).mono ?_
      rintro e w' ⟨rfl, hb2⟩
      rw [H4.out]
      go_wp2_with fail
      go_ret
      exact ⟨rfl, below_step hb hb2⟩
    | false =>
      have e : wd a0 = 1 := by unfold wd; rw [if_neg (by rw [h3]; simp; omega), if_neg (by rw [h4]; simp)]
      rw [e]
      clear e
      have H3 := Aside0.mk h3
      clear h3
      have H4 := Aside0.mk h4
      clear h4
      go_enter Tryd.func15, Tryd.ntmps15
      go_wp2_with fail
      refine (among_none a0 _ HT.out).mono ?_
      rintro e w' ⟨rfl, hb⟩
      rw [H3.out]
      go_wp2_with fail
      refine (among_wide a0 _ (tabAt HT.out hb)).mono ?_
      rintro e w' ⟨rfl, hb2⟩
      rw [H4.out]
      go_wp2_with fail
      go_ret
      exact ⟨rfl, below_step hb hb2⟩
end Go.Proofs.YtcfndcjbgalnpaaDoor.Hand
namespace Go.Proofs.YtcfndcjbgalnpaaDoor
open Go.ChangeShapes Go.WideShapes Go.ChangeAt Go.RowKit
open Go.Proofs.YtcfndcjbgalnpaaDoorW.PrintWords Go.Proofs.YtcfndcjbgalnpaaDoor.Hand
theorem gWide : Tryd.prog.globalNamed "tickertape/cell.wide" = some 1 := by kernel_rfl
theorem gNone : Tryd.prog.globalNamed "tickertape/cell.none" = some 0 := by kernel_rfl
theorem tWide : (Tryd.prog.globals[1]?).map (·.type) = some 75 := by kernel_rfl
theorem tNone : (Tryd.prog.globals[0]?).map (·.type) = some 74 := by kernel_rfl
theorem spanOf {W : World} {base : Nat} {spare : Nat → Bool} {held : Bool} {n : Nat} {H : Type} {enc : TypeId × Value → H} {cs : List Value} {a b : Int} {p : List MemPlace}
    (h : DataW.trod enc Tryd.prog W base spare held n 73 cs = some (.agg [.lit (.int .i32 a), .lit (.int .i32 b)], p)) : cs = [.int .i32 a, .int .i32 b] := by
  obtain ⟨y0, y1, m, hx, hl, h0, h1⟩ := trod_struct2 Tryd.underlying73 h
  have c37 : Tryd.prog.cellsOf 73 = 2 := by kernel_rfl
  have c21 : Tryd.prog.cellsOf 21 = 1 := by kernel_rfl
  rw [c37] at hl
  obtain ⟨n0, e0, f0, _⟩ := DataW.trod_int Tryd.underlying21 h0
  obtain ⟨n1, e1, f1, _⟩ := DataW.trod_int Tryd.underlying21 h1
  simp only [Prod.mk.injEq, DataW.agg.injEq, List.cons.injEq, and_true] at hx
  rw [f0, f1] at hx
  simp only [DataW.lit.injEq, Lit.int.injEq, true_and] at hx
  obtain ⟨⟨rfl, rfl⟩, _⟩ := hx
  match cs, hl with
  | [x, y], _ =>
    simp [c21] at e0 e1
    rw [e0, e1]
theorem tabOf {W : World} {H : Type} {enc : TypeId × Value → H} {g t n fuel : Nat} {nm : String} {held : Bool} {cs : Array Value} {p : List MemPlace} {l : List PA.S73}
    (hg : Tryd.prog.globalNamed nm = some g) (hv : W.var? Tryd.prog nm = some cs) (ht : Tryd.prog.underlying t = some (.array n 73)) (hl : l.length = n) (hn : n ≤ 100)
    (hd : DataW.trod enc Tryd.prog W 0 (fun _ => true) held fuel t cs.toList = some (.agg (l.map fun s => .agg [.lit (.int .i32 s.f0), .lit (.int .i32 s.f1)]), p)) :
    Kd.C PA.k73 W (some ⟨g, 0, none⟩) n l := by
  obtain ⟨xs, m, _, hx, hcl, hxl, hel⟩ := DataW.trod_array ht hd
  have c37 : Tryd.prog.cellsOf 73 = 2 := by kernel_rfl
  refine ⟨hl, by omega, fun _ => ⟨_, rfl, fun j s hj => ?_⟩⟩
  have hjn : j < n := by
    rcases Nat.lt_or_ge j l.length with g | g
    · omega
    · rw [List.getElem?_eq_none g] at hj; cases hj
  have h1 := hel j hjn
  rw [c37] at h1
  simp only [Prod.mk.injEq, DataW.agg.injEq] at hx
  have h2 : (xs.map (·.1))[j]? = some (.agg [.lit (.int .i32 s.f0), .lit (.int .i32 s.f1)]) := by rw [← hx.1, List.getElem?_map, hj]; rfl
  rw [List.getElem?_map] at h2
  cases h3 : xs[j]? with
  | none => rw [h3] at h2; cases h2
  | some y =>
    obtain ⟨y1, y2⟩ := y
    rw [h3] at h2 h1
    simp at h2
    subst h2
    have h4 := spanOf h1
    refine ⟨_, by rfl, PA.k73_mk W s, fun i u hu => ?_⟩
    have h5 : ((⟨g, 0, none⟩ : Addr).add (j * 2 + i)) = ⟨g, j * 2 + i, none⟩ := by
      unfold Addr.add
      split
      · next h => rw [h]
      · simp
    show W.cell? ((⟨g, 0, none⟩ : Addr).add (j * 2 + i)) = some u
    rw [h5, World.var?_cell hg hv, ← Array.getElem?_toList]
    rw [← h4, List.getElem?_take] at hu
    split at hu
    · rw [List.getElem?_drop] at hu; exact hu
    · cases hu
theorem tabW_of {W : World} (h : laidMetH Tryd.prog [("tickertape/cell.wide", Rows.laid_tickertape_cell_wide), ("tickertape/cell.none", Rows.laid_tickertape_cell_none)] W) : TabW W := by
  rw [MakeChecks.laidMetH_plain _ _ _ (by kernel_rfl)] at h
  obtain ⟨ps, ⟨g0, t0, cs0, f0, p0, q0, hg0, ht0, hv0, hd0, ⟨g1, t1, cs1, f1, p1, q1, hg1, ht1, hv1, hd1, _, _⟩, _⟩, _, _⟩ := h
  obtain rfl := Option.some.inj (gWide.symm.trans hg0)
  obtain rfl := Option.some.inj (gNone.symm.trans hg1)
  obtain rfl := Option.some.inj (tWide.symm.trans ht0)
  obtain rfl := Option.some.inj (tNone.symm.trans ht1)
  have k0 := tabOf (l := wideL) hg0 hv0 Tryd.underlying75 rfl (by omega) hd0
  have k1 := tabOf (l := noneL) hg1 hv1 Tryd.underlying74 rfl (by omega) hd1
  refine ⟨?_, k1, k0⟩
  obtain ⟨_, _, hc⟩ := k0
  obtain ⟨ad, e, hc⟩ := hc (by omega)
  obtain ⟨c, hcl, hk, hcell⟩ := hc 0 ⟨4352, 4447⟩ rfl
  have hk' := PA.k73_open hk
  subst hk'
  have := hcell 0 _ rfl
  have e1 := Option.some.inj e
  subst e1
  have hlt := World.block_lt_of_cell? _ _ this
  exact hlt
end Go.Proofs.YtcfndcjbgalnpaaDoor
namespace Go.Proofs.YtcfndcjbgalnpaaDoor.Hand
open Go.RowKit Go.Proofs.YtcfndcjbgalnpaaDoorW.PrintWords Go.Proofs.YtcfndcjbgalnpaaDoorW.PrintLast
structure C5 where
  r : Int
  f : Int
  g : Int
  b : Int
  w : Int
deriving DecidableEq
def C5.vs (c : C5) : List Value := [.int .i32 c.r, .int .i64 c.f, .int .i64 c.g, .int .i64 c.b, .int .i64 c.w]
@[reducible] def C5.agg (c : C5) : Value := .agg #[.int .i32 c.r, .int .i64 c.f, .int .i64 c.g, .int .i64 c.b, .int .i64 c.w]
def flat (L : List C5) : List Value := L.flatMap C5.vs
theorem C5.vs_length (c : C5) : c.vs.length = 5 := rfl
theorem flat_nil : flat [] = [] := rfl
theorem flat_cons (c : C5) (L : List C5) : flat (c :: L) = c.vs ++ flat L := rfl
theorem flat_append (L M : List C5) : flat (L ++ M) = flat L ++ flat M := List.flatMap_append
theorem flat_length : ∀ L : List C5, (flat L).length = 5 * L.length
  | [] => rfl
  | c :: L => by rw [flat_cons, List.length_append, flat_length L, C5.vs_length, List.length_cons]; omega
theorem flat_take : ∀ (L : List C5) (n : Nat), (flat L).take (5 * n) = flat (L.take n)
  | [], n => by simp [flat_nil]
  | c :: L, 0 => by simp [flat_nil]
  | c :: L, n + 1 => by
    rw [flat_cons, List.take_succ_cons, flat_cons, show 5 * (n + 1) = c.vs.length + 5 * n by rw [C5.vs_length]; omega, List.take_length_add_append, flat_take L n]
theorem flat_drop : ∀ (L : List C5) (n : Nat), (flat L).drop (5 * n) = flat (L.drop n)
  | [], n => by simp [flat_nil]
  | c :: L, 0 => by simp
  | c :: L, n + 1 => by
    rw [flat_cons, List.drop_succ_cons, show 5 * (n + 1) = c.vs.length + 5 * n by rw [C5.vs_length]; omega, List.drop_length_add_append, flat_drop L n]
theorem flat_get (L : List C5) (i : Nat) (c : C5) (h : L[i]? = some c) (j : Nat) (hj : j < 5) : (flat L)[5 * i + j]? = c.vs[j]? := by
  have hi : i < L.length := (List.getElem?_eq_some_iff.1 h).1
  have e : L.drop i = c :: L.drop (i + 1) := by
    rw [List.drop_eq_getElem_cons hi]
    congr 1
    exact (List.getElem?_eq_some_iff.1 h).2
  rw [← List.getElem?_drop, flat_drop, e, flat_cons, List.getElem?_append_left (by rw [C5.vs_length]; omega)]
theorem splice_flat (L : List C5) (o : Nat) (M : List C5) : splice (flat L) (5 * o) (flat M) = flat (splice L o M) := by
  unfold splice
  rw [flat_take, flat_append, flat_append, flat_length, show 5 * o + 5 * M.length = 5 * (o + M.length) by omega, flat_drop]
theorem splice_tail {α : Type} (L X M : List α) (o : Nat) (h : o + M.length ≤ L.length) : splice (L ++ X) o M = splice L o M ++ X := by
  unfold splice
  rw [List.take_append_of_le_length (by omega), List.drop_append_of_le_length h]
  simp only [List.append_assoc]
theorem splice_length {α : Type} (L M : List α) (o : Nat) (h : o + M.length ≤ L.length) : (splice L o M).length = L.length := by
  unfold splice
  simp only [List.length_append, List.length_take, List.length_drop]
  omega
theorem splice_one {α : Type} (L : List α) (i : Nat) (x : α) (h : i < L.length) : splice L i [x] = L.set i x := by
  unfold splice
  rw [List.set_eq_take_append_cons_drop, if_pos h]
  rfl
theorem splice_next {α : Type} (L M : List α) (o : Nat) (x : α) (h : o + M.length < L.length) : (splice L o M).set (o + M.length) x = splice L o (M ++ [x]) := by
  unfold splice
  have hto : (L.take o).length = o := by rw [List.length_take]; omega
  rw [List.set_append_right _ _ (by omega), hto, List.set_append_right _ _ (by omega), show o + M.length - o - M.length = 0 by omega, List.drop_eq_getElem_cons h, List.set_cons_zero, List.append_assoc, List.length_append, List.length_singleton, List.singleton_append, Nat.add_assoc]
theorem splice_keep {α : Type} (L M : List α) (o : Nat) (x : α) (h : L[o + M.length]? = some x) : splice L o M = splice L o (M ++ [x]) := by
  have hl : o + M.length < L.length := (List.getElem?_eq_some_iff.1 h).1
  rw [← splice_next L M o x hl]
  symm
  apply List.ext_getElem?
  intro j
  rw [List.getElem?_set]
  split
  · rename_i e
    subst e
    have hs := splice_length L M o (by omega)
    rw [if_pos (by omega)]
    unfold splice
    have hto : (L.take o).length = o := by rw [List.length_take]; omega
    rw [List.getElem?_append_right (by omega), hto, List.getElem?_append_right (by omega), show o + M.length - o - M.length = 0 by omega, List.getElem?_drop, Nat.add_zero, h]
  · rfl
theorem splice_rep {α : Type} (L : List α) (o i : Nat) (x : α) (h : o + i < L.length) : (splice L o (List.replicate i x)).set (o + i) x = splice L o (List.replicate (i + 1) x) := by
  have := splice_next L (List.replicate i x) o x (by rw [List.length_replicate]; exact h)
  rw [List.length_replicate] at this
  rw [this, List.replicate_succ']
theorem add_at (b o i : Nat) : (⟨b, o, none⟩ : Addr).add i = ⟨b, o + i, none⟩ := by unfold Addr.add; split <;> simp_all
structure RowAt (w : World) (b : Nat) (L : List C5) : Prop where
  mk ::
  out : ∃ ex, w.heap[b]? = some (.cells (flat L ++ ex).toArray 32 (0, 0))
theorem RowAt.lt {w : World} {b : Nat} {L : List C5} (h : RowAt w b L) : b < w.heap.size := by
  obtain ⟨ex, h⟩ := h.out
  exact blk_lt h
theorem RowAt.grown {w w' : World} {b : Nat} {L : List C5} {row : Option Nat} (h : RowAt w b L) (hg : w.grownBy w' row) (hb : some b ≠ row) : RowAt w' b L := by
  obtain ⟨ex, h1⟩ := h.out
  exact ⟨ex, (hg.block b h.lt hb).trans h1⟩
theorem RowAt.below {w w' : World} {b : Nat} {L : List C5} (h : RowAt w b L) (hb : Below w.heap.size w w') : RowAt w' b L := by
  obtain ⟨ex, h1⟩ := h.out
  exact ⟨ex, blk_below h1 hb⟩
theorem RowAt.cell {w : World} {b : Nat} {L : List C5} (h : RowAt w b L) {i : Nat} {c : C5} (hi : L[i]? = some c) (j : Nat) (hj : j < 5) : w.cell? ⟨b, 5 * i + j, none⟩ = c.vs[j]? := by
  obtain ⟨ex, h1⟩ := h.out
  have hl : i < L.length := (List.getElem?_eq_some_iff.1 hi).1
  rw [cell_of_row w b _ _ 32 (0, 0) h1]
  rw [List.getElem?_toArray, List.getElem?_append_left (by rw [flat_length]; omega), flat_get L i c hi j hj]
theorem RowAt.frozen {w : World} {b : Nat} {L : List C5} (h : RowAt w b L) (j : Nat) : w.frozen? ⟨b, j, none⟩ = false := by
  obtain ⟨ex, h1⟩ := h.out
  exact blk_frozen h1 j
theorem below_grown_by {B : Nat} {w0 w w' : World} {row : Option Nat} (h : Below B w0 w) (hB : w0.heap.size = B) (hg : w.grownBy w' row) (hr : ∀ k, row = some k → B ≤ k) : Below B w0 w' :=
  ⟨hg.os.trans h.os, hg.tape.trans h.tape, hg.output.trans h.output, Nat.le_trans h.size hg.size, fun k hk => (hg.block k (by have := h.size; omega) (fun e => by have := hr k e.symm; omega)).trans (h.block k hk)⟩
theorem grown_refl (w : World) (row : Option Nat) : w.grownBy w row := ⟨rfl, rfl, rfl, Nat.le_refl _, fun _ _ _ => rfl⟩
theorem grown_trans {w w1 w2 : World} {row : Option Nat} (h : w.grownBy w1 row) (k : w1.grownBy w2 row) : w.grownBy w2 row :=
  ⟨k.os.trans h.os, k.tape.trans h.tape, k.output.trans h.output, Nat.le_trans h.size k.size, fun i hi hr => (k.block i (Nat.lt_of_lt_of_le hi h.size) hr).trans (h.block i hi hr)⟩
theorem grown_below {w w1 w2 : World} {row : Option Nat} (h : w.grownBy w1 row) (k : Below w1.heap.size w1 w2) : w.grownBy w2 row :=
  ⟨k.os.trans h.os, k.tape.trans h.tape, k.output.trans h.output, Nat.le_trans h.size k.size, fun i hi hr => (k.block i (Nat.lt_of_lt_of_le hi h.size)).trans (h.block i hi hr)⟩
theorem grown_of_none {w w1 : World} {row : Option Nat} (k : Below w.heap.size w w1) : w.grownBy w1 row := grown_below (grown_refl w row) k
theorem grown_new {w w1 w2 : World} {row : Option Nat} {g : Nat} (h : w.grownBy w1 row) (k : w1.grownBy w2 (some g)) (hg : w.heap.size ≤ g) : w.grownBy w2 row :=
  ⟨k.os.trans h.os, k.tape.trans h.tape, k.output.trans h.output, Nat.le_trans h.size k.size, fun i hi hr => (k.block i (Nat.lt_of_lt_of_le hi h.size) (fun e => by injection e with e; omega)).trans (h.block i hi hr)⟩
theorem below_new {w w1 w2 : World} {g : Nat} (h : Below w.heap.size w w1) (k : w1.grownBy w2 (some g)) (hg : w.heap.size ≤ g) : Below w.heap.size w w2 :=
  below_grown_by h rfl k (fun k hk => by injection hk with hk; omega)
theorem below_drawn (w : World) (m : Nat) : Below w.heap.size w (w.drewN m) := pw_below_drewN (Below.refl _ _) m
theorem grown_setCells (w : World) (b o : Nat) (vs : List Value) : w.grownBy (w.setCells b o vs) (some b) := by
  obtain ⟨s1, s2, s3, s4⟩ := setCells_same b vs o w
  exact ⟨s1, s2, s3, Nat.le_of_eq s4.symm, fun k _ hr => setCells_far vs o k (fun e => hr (by rw [e]))⟩
theorem RowAt.put {w : World} {b : Nat} {L : List C5} (h : RowAt w b L) (o : Nat) (M : List C5) (hl : o + M.length ≤ L.length) : RowAt (w.setCells b (5 * o) (flat M)) b (splice L o M) := by
  obtain ⟨ex, h1⟩ := h.out
  obtain ⟨cur', h2, h3, h4⟩ := setCells_row (flat M) (5 * o) w _ h1 (by simp only [List.size_toArray, List.length_append, flat_length]; omega)
  refine ⟨ex, ?_⟩
  rw [h2]
  have e : cur' = (flat (splice L o M) ++ ex).toArray := by
    apply Array.toList_inj.1
    rw [h4, ← splice_flat, ← splice_tail _ _ _ _ (by rw [flat_length, flat_length]; omega)]
    unfold splice
    simp only [List.append_assoc]
  rw [e]
theorem info_cell : (Tryd.prog.info? 32).map (·.size) = some 5 := by kernel_rfl
theorem flat_one : ∀ (L : List C5), ∀ q ∈ flat L, q.oneCell' = true
  | [], q, h => by simp [flat_nil] at h
  | c :: L, q, h => by
    rw [flat_cons, List.mem_append] at h
    rcases h with h | h
    · simp only [C5.vs, List.mem_cons, List.not_mem_nil, or_false] at h
      rcases h with rfl | rfl | rfl | rfl | rfl <;> rfl
    · exact flat_one L q h
section
variable {ops : Array Oper} {rest : List Oper} {o : Oper} {a : Act} {Q : Exit → Act → World → Prop} {W : World}
theorem run_store_cell {b : Nat} {L : List C5} (hR : RowAt W b L) (i : Nat) (hi : i < L.length) (c : C5) (t : TypeId) (ht : (Tryd.prog.info? t).map (·.size) = some 5) :
    (Instr.storeAt t (.pointer (some ⟨b, 5 * i, none⟩)) c.agg).run Tryd.prog W = .ok () (W.setCells b (5 * i) c.vs) ∧ RowAt (W.setCells b (5 * i) c.vs) b (L.set i c) := by
  have h3 := hR.put i [c] (by simp only [List.length_singleton]; omega)
  rw [splice_one L i c hi, show flat [c] = c.vs by simp [flat_cons, flat_nil]] at h3
  refine ⟨?_, h3⟩
  obtain ⟨ex, h1⟩ := hR.out
  refine run_store_run t c.agg c.vs h1 rfl ht (by simp only [List.size_toArray, List.length_append, flat_length, C5.vs_length]; omega) ?_
  have h5 := flat_one [c]
  rwa [show flat [c] = c.vs by simp [flat_cons, flat_nil]] at h5
theorem store_cell {b o' : Nat} {L : List C5} (hR : RowAt W b L) (i : Nat) (hi : i < L.length) (c : C5) (t : TypeId) (p x : Operand) (hN : o.dst = none) (hgd : o.guard = none) (ho : o.op = .store t p x) (ht : (Tryd.prog.info? t).map (·.size) = some 5)
    (hp : a.eval p = .pointer (some ⟨b, o', none⟩)) (hoff : o' = 5 * i) (hx : a.eval x = c.agg)
    (h : ∀ w', RowAt w' b (L.set i c) → W.grownBy w' (some b) → wpList Tryd.prog ops Q rest a w') : wpList Tryd.prog ops Q (o :: rest) a W := by
  subst hoff
  obtain ⟨hrun, hR'⟩ := run_store_cell hR i hi c t ht
  refine wpList_plain hgd fun K hK => ?_
  unfold Oper.wp execOp
  simp only [ho, hp, hx, Sem.run_bind, Sem.run_pure, Result.andThen_ok, hrun]
  show K (a.put o.dst undef) _
  rw [hN]
  exact hK _ _ (h _ hR' (grown_setCells _ _ _ _))
theorem store_box {g : Nat} {cs : Array Value} (hB : W.heap[g]? = some (.cells cs 32 (0, 0))) (hcs : cs.size = 5) (c : C5) (t : TypeId) (p x : Operand) (hN : o.dst = none) (hgd : o.guard = none) (ho : o.op = .store t p x) (ht : (Tryd.prog.info? t).map (·.size) = some 5)
    (hp : a.eval p = .pointer (some ⟨g, 0, none⟩)) (hx : a.eval x = c.agg)
    (h : ∀ w', w'.heap[g]? = some (.cells #[.int .i32 c.r, .int .i64 c.f, .int .i64 c.g, .int .i64 c.b, .int .i64 c.w] 32 (0, 0)) → W.grownBy w' (some g) → wpList Tryd.prog ops Q rest a w') : wpList Tryd.prog ops Q (o :: rest) a W := by
  have h5 : ∀ q ∈ c.vs, q.oneCell' = true := by
    have h6 := flat_one [c]
    rwa [show flat [c] = c.vs by simp [flat_cons, flat_nil]] at h6
  have hrun := run_store_run (P := Tryd.prog) t c.agg c.vs (o := 0) hB rfl ht (by rw [C5.vs_length]; omega) h5
  obtain ⟨cur', h2, h3, h4⟩ := setCells_row c.vs 0 W cs hB (by rw [C5.vs_length]; omega)
  have hl : cs.toList.length = 5 := by rw [Array.length_toList]; exact hcs
  have e : cur' = #[.int .i32 c.r, .int .i64 c.f, .int .i64 c.g, .int .i64 c.b, .int .i64 c.w] := by
    apply Array.toList_inj.1
    rw [h4, List.take_zero, List.nil_append, List.drop_of_length_le (by rw [C5.vs_length]; omega), List.append_nil]
    rfl
  rw [e] at h2
  refine wpList_plain hgd fun K hK => ?_
  unfold Oper.wp execOp
  simp only [ho, hp, hx, Sem.run_bind, Sem.run_pure, Result.andThen_ok, hrun]
  show K (a.put o.dst undef) _
  rw [hN]
  exact hK _ _ (h _ h2 (grown_setCells _ _ _ _))
theorem run_copy_n (dT sT ty elem : TypeId) (k : Nat) (b o dLen dCap : Nat) (ad : Addr) (sLen sCap : Nat) (cs : List Value)
    (hu : Tryd.prog.underlying dT = some (.slice elem)) (hs : (Tryd.prog.info? elem).map (·.size) = some k) (hn : cs.length = Nat.min sLen dLen * k)
    (hsrc : ∀ j v, cs[j]? = some v → W.cell? (ad.add j) = some v) (hc : ∀ j, j < cs.length → (W.cell? ⟨b, o + j, none⟩).isSome = true) (hf : ∀ j, j < cs.length → W.frozen? ⟨b, o + j, none⟩ = false) (h1 : ∀ v ∈ cs, v.oneCell' = true) :
    (Builtin.copy_ #[dT, sT] ty #[.slice (some ⟨b, o, none⟩) dLen dCap, .slice (some ad) sLen sCap]).run Tryd.prog W = .ok (goInt (Nat.min sLen dLen)) (W.setCells b o cs) := by
  have hl := run_loadCells_list (P := Tryd.prog) W ad cs hsrc
  have hst := run_storeCells_cells (P := Tryd.prog) b o cs 0 W (by simpa using hc) (by simpa using hf) h1
  cases hq : Tryd.prog.info? elem with
  | none => simp [hq] at hs
  | some i =>
    have hi : i.size = k := by simpa [hq] using hs
    rw [hn] at hl
    simp [Builtin.copy_, run_underlying hu, Builtin.lenOf, Builtin.firstCells, sizeOf, typeInfo, hq, hi, hl, hst]
end
def kC : Kd C5 := Kd.iso (Kd.pair (Kd.int .i32) (Kd.pair (Kd.int .i64) (Kd.pair (Kd.int .i64) (Kd.pair (Kd.int .i64) (Kd.int .i64))))) (fun c => (c.r, c.f, c.g, c.b, c.w))
theorem kC_M {w : World} {base : Nat} {ok : Nat → Prop} {c : C5} {cs : List Value} : kC.M w base ok c cs ↔ cs = c.vs := by
  constructor
  · rintro ⟨_, _, rfl, h0, _, _, rfl, h1, _, _, rfl, h2, _, _, rfl, h3, h4⟩
    have h0 : _ = [_] := h0
    have h1 : _ = [_] := h1
    have h2 : _ = [_] := h2
    have h3 : _ = [_] := h3
    have h4 : _ = [_] := h4
    subst h0 h1 h2 h3 h4
    rfl
  · rintro rfl
    exact ⟨[_], _, rfl, rfl, [_], _, rfl, rfl, [_], _, rfl, rfl, [_], [_], rfl, rfl, rfl⟩
theorem kC_K {w : World} {c : C5} : kC.K w c c.vs := ⟨[_], _, rfl, rfl, [_], _, rfl, rfl, [_], _, rfl, rfl, [_], [_], rfl, rfl, rfl⟩
theorem kC_Kv {w : World} {c : C5} {cs : List Value} (h : kC.K w c cs) : cs = c.vs := by
  obtain ⟨_, _, rfl, h0, _, _, rfl, h1, _, _, rfl, h2, _, _, rfl, h3, h4⟩ := h
  have h0 : _ = [_] := h0
  have h1 : _ = [_] := h1
  have h2 : _ = [_] := h2
  have h3 : _ = [_] := h3
  have h4 : _ = [_] := h4
  subst h0 h1 h2 h3 h4
  rfl
theorem reps_flat {R : C5 → List Value → Prop} (hR : ∀ c cs, R c cs → cs = c.vs) : ∀ (L : List C5) (cs : List Value), Reps R 5 L cs → cs = flat L
  | [], cs, h => by
    have := h.1
    simp only [List.length_nil, Nat.zero_mul] at this
    rw [List.eq_nil_of_length_eq_zero this]
    rfl
  | c :: L, cs, h => by
    have h0 := hR _ _ (h.2 0 c rfl)
    rw [Nat.zero_mul, List.drop_zero] at h0
    have h1 := reps_flat hR L (cs.drop 5) ⟨by rw [List.length_drop, h.1, List.length_cons]; omega, fun j p hj => by
      have := h.2 (j + 1) p (by simpa using hj)
      rwa [show (j + 1) * 5 = 5 + j * 5 by omega, ← List.drop_drop] at this⟩
    rw [flat_cons, ← h0, ← h1, List.take_append_drop]
theorem rowAt_of_R {w : World} {base : Nat} {ok : Nat → Prop} {v : Value} {L : List C5} (h : Kd.R kC 32 w base ok v L) (hp : 0 < L.length) :
    ∃ b cap, v = .slice (some ⟨b, 0, none⟩) L.length cap ∧ base ≤ b ∧ ok b ∧ RowAt w b L ∧ L.length ≤ cap ∧ cap ≤ maxLen := by
  obtain ⟨h0, inner, ho, hr⟩ := h
  rcases ho.2 with ⟨_, h2⟩ | ⟨b, cap, cur, rfl, hb, hh, hn, hcap, hcs, htk⟩
  · omega
  · have hin : inner = flat L := reps_flat (fun c cs hc => kC_M.1 hc) L inner hr
    refine ⟨b, cap, rfl, hb, h0 b (by simp [Value.ownBlock]), ⟨cur.toList.drop (L.length * 5), ?_⟩, hn, hcap⟩
    rw [hh]
    congr 2
    apply Array.toList_inj.1
    show cur.toList = flat L ++ _
    rw [← hin, ← htk]
    exact (List.take_append_drop _ _).symm
theorem RowAt.reads {w : World} {b : Nat} {L : List C5} (h : RowAt w b L) (o m : Nat) (hl : o + m ≤ L.length) (hm : m ≤ 9223372036854775807) : Kd.C kC w (some ⟨b, 5 * o, none⟩) m ((L.drop o).take m) := by
  refine ⟨by rw [List.length_take, List.length_drop]; omega, hm, fun _ => ⟨_, rfl, fun j p hj => ⟨p.vs, rfl, kC_K, fun i u hu => ?_⟩⟩⟩
  have hi : i < 5 := (List.getElem?_eq_some_iff.1 hu).1
  have hjm : j < m := by
    have := (List.getElem?_eq_some_iff.1 hj).1
    rw [List.length_take] at this
    omega
  have hL : L[o + j]? = some p := by
    rw [List.getElem?_take_of_lt hjm, List.getElem?_drop] at hj
    exact hj
  rw [show (⟨b, 5 * o, none⟩ : Addr).add (j * kC.sz + i) = ⟨b, 5 * (o + j) + i, none⟩ by rw [add_at]; congr 1; show 5 * o + (j * 5 + i) = _; omega]
  rw [h.cell hL i hi]
  exact hu
def z5 : C5 := ⟨0, 0, 0, 0, 0⟩
def aloneL (l : List C5) (i : Nat) : Bool :=
  ((l.getD i z5).w == 1 && (i + 1 == l.length || (l.getD (i + 1) z5).w != 2)) || ((l.getD i z5).w == 2 && (i == 0 || (l.getD (i - 1) z5).w != 1))
def mendC (l : List C5) (i : Nat) : C5 := if aloneL l i = true then ⟨32, (l.getD i z5).f, (l.getD i z5).g, (l.getD i z5).b, 0⟩ else l.getD i z5
def mendTo (l : List C5) (i : Nat) : List C5 := (List.range i).map (mendC l)
def mendL (l : List C5) : List C5 := mendTo l l.length
theorem mendTo_length (l : List C5) (i : Nat) : (mendTo l i).length = i := by simp [mendTo]
theorem mendTo_succ (l : List C5) (i : Nat) : mendTo l (i + 1) = mendTo l i ++ [mendC l i] := by simp [mendTo, List.range_succ]
theorem mendL_length (l : List C5) : (mendL l).length = l.length := mendTo_length l _
end Go.Proofs.YtcfndcjbgalnpaaDoor.Hand
namespace Go.Proofs.YtcfndcjbgalnpaaDoor.Hand
open Go.RowKit Go.Proofs.YtcfndcjbgalnpaaDoorW.PrintWords Go.Proofs.YtcfndcjbgalnpaaDoorW.PrintLast
set_option maxHeartbeats 1000000 in
theorem fill_calls {w : World} {b cap : Nat} {L : List C5} (hR : RowAt w b L) (o m : Nat) (hl : o + m ≤ L.length) (hL : L.length ≤ 12000) (c : C5) (hcap : m ≤ cap) :
    Calls Tryd.prog 41 #[.slice (some ⟨b, 5 * o, none⟩) m cap, c.agg] w (fun e w' => e = .returned (.tuple #[]) ∧ RowAt w' b (splice L o (List.replicate m c)) ∧ w.grownBy w' (some b)) := by
  have HR := Aside0.mk hR
  clear hR
  go_enter Tryd.func41, Tryd.ntmps41
  go_wp2
  have hbw : b < w.heap.size := HR.out.lt
  have hnb : w.heap.size ≠ b := by omega
  go_loopw [7] (fun v7 wr => ∃ i : Nat, i ≤ m ∧ v7 = .int .i64 i ∧ Aside0 (RowAt wr b (splice L o (List.replicate i c))) ∧ Aside0 (w.grownBy wr (some b)) ∧ Aside0 (wr.heap[w.heap.size]? = some (.cells #[.int .i32 c.r, .int .i64 c.f, .int .i64 c.g, .int .i64 c.b, .int .i64 c.w] 32 (0, 0)))) (fun v7 _ => m - (intOf v7).toNat)
  case atStart => exact ⟨0, Nat.zero_le _, rfl, ⟨by simpa [splice] using HR.out.below (below_alloc (Below.refl _ _) _)⟩, ⟨grown_of_none (below_alloc (Below.refl _ _) _)⟩, ⟨blk_new _ _⟩⟩
  case round =>
    obtain ⟨i, hi, rfl, HR1, HG1, HB1⟩ := hrel
    by_cases hlt : i < m
    · have hz0 : wr.cell? ⟨w.heap.size, 0, none⟩ = some (.int .i32 c.r) := (blk_cell HB1.out 0).trans rfl
      have hz1 : wr.cell? ⟨w.heap.size, 1, none⟩ = some (.int .i64 c.f) := (blk_cell HB1.out 1).trans rfl
      have hz2 : wr.cell? ⟨w.heap.size, 2, none⟩ = some (.int .i64 c.g) := (blk_cell HB1.out 2).trans rfl
      have hz3 : wr.cell? ⟨w.heap.size, 3, none⟩ = some (.int .i64 c.b) := (blk_cell HB1.out 3).trans rfl
      have hz4 : wr.cell? ⟨w.heap.size, 4, none⟩ = some (.int .i64 c.w) := (blk_cell HB1.out 4).trans rfl
      have hlen : o + i < (splice L o (List.replicate i c)).length := by rw [splice_length _ _ _ (by simp only [List.length_replicate]; omega)]; omega
      have HL := Aside0.mk hlen
      clear hlen
      go_wp2_with ((with_reducible refine gate_store (t := 32) (p := 13) (v := .tmp 12) rfl ?_); refine store_cell (o' := 5 * o + i * 5) HR1.out (o + i) HL.out c 32 (.tmp 13) (.tmp 12) rfl rfl rfl info_cell rfl (by omega) rfl ?_; intro w2 HR2 HG2; have HR2 := Aside0.mk HR2; have HG2 := Aside0.mk HG2)
      refine ⟨⟨i + 1, by omega, by go_num, ⟨by rw [← splice_rep L o i c (by omega)]; exact HR2.out⟩, ⟨grown_trans HG1.out HG2.out⟩, ⟨(HG2.out.block _ (blk_lt HB1.out) (fun e => hnb (Option.some.inj e))).trans HB1.out⟩⟩, by simp [intOf]; omega⟩
    · obtain rfl : i = m := by omega
      go_wp2
      go_end0
      exact ⟨rfl, HR1.out, HG1.out⟩
theorem info_cell3 : (Tryd.prog.info? 32).map (fun i => (i.zero, i.size, i.bytes)) = some (some (C5.agg ⟨0, 0, 0, 0, 0⟩), 5, 40) := by kernel_rfl
set_option maxHeartbeats 1000000 in
theorem clone_calls {w : World} {b cap : Nat} {L : List C5} (hR : RowAt w b L) (o m : Nat) (hm : 0 < m) (hl : o + m ≤ L.length) (hL : L.length ≤ 12000) (hcap : m ≤ cap) :
    Calls Tryd.prog 40 #[.slice (some ⟨b, 5 * o, none⟩) m cap] w (fun e w' => ∃ b' cap', e = .returned (.slice (some ⟨b', 0, none⟩) m cap') ∧ m ≤ cap' ∧ cap' ≤ maxLen ∧ w.heap.size ≤ b' ∧ RowAt w' b' ((L.drop o).take m) ∧ Below w.heap.size w w') := by
  have HC := Aside0.mk (hR.reads o m hl (by omega))
  clear hR
  have hq : ∀ w : World, (binOp .eql 49 (.slice (some ⟨b, 5 * o, none⟩) m cap) (.slice none 0 0)).run Tryd.prog w = .ok (.bool false) w := fun w => Lib.run_eql_slice_nil w 49 32 (some ⟨b, 5 * o, none⟩) m cap 0 0 Tryd.underlying49
  go_enter Tryd.func40, Tryd.ntmps40
  go_wp2_with (first
    | ((with_reducible refine gate_dst (N := 5) rfl ?_); refine Kd.R_lit kC w.heap.size 32 ?hg (N := 5) ?hd (xs := ([] : List C5)) (inner := []) (ok := fun _ => True) (okp := fun _ => True) ?hr ?hp (fun _ hk => hk) trivial (Below.refl _ _) (Nat.le_refl _) (by simp) ?_; (case hd => rfl); (case hg => rfl); (case hr => first | (go_simp; done) | (go_simp; rfl)); (case hp => exact (Reps.none _ _)); intro v1 w1 ho hb hg_ hnew_; clear hg_ hnew_; have HO1 := Aside0.mk ho; have HB1 := Aside0.mk hb; clear ho hb)
    | ((with_reducible refine gate_builtin (b := .append) (xs := #[.tmp 5, .tmp 6]) rfl ?_); at_builtin; refine Kd.R_append_rows kC (w0 := w) w.heap.size rfl (.tmp 5) (.tmp 6) 49 32 (C5.agg ⟨0, 0, 0, 0, 0⟩) 40 rfl Tryd.underlying49 info_cell3 rfl (by decide) (by omega) v1 [] ((L.drop o).take m) _ _ _ (fun _ => True) (fun _ => False) rfl rfl HO1.out (Kd.C_below HC.out HB1.out) (fun _ _ h => kC_M.2 (kC_Kv h)) (fun _ h => h.elim) (fun _ _ => trivial) HB1.out HB1.out.size (by simp only [List.length_nil]; omega) ?_; intro v2 w2 ho hb hg hat; have HO2 := Aside0.mk ho; have HB2 := Aside0.mk hb; clear ho hb hg hat HO1 HB1))
  go_ret
  have hlm : ((L.drop o).take m).length = m := by rw [List.length_take, List.length_drop]; omega
  obtain ⟨b', cap', e1, e2, _, e4, e5, e6⟩ := rowAt_of_R HO2.out (by rw [List.nil_append]; omega)
  rw [List.nil_append] at e1 e4 e5
  rw [hlm] at e1 e5
  exact ⟨b', cap', by rw [e1]; rfl, e5, e6, e2, e4, HB2.out⟩
end Go.Proofs.YtcfndcjbgalnpaaDoor.Hand
namespace Go.Proofs.YtcfndcjbgalnpaaDoor.Hand
open Go.RowKit Go.Proofs.YtcfndcjbgalnpaaDoorW.PrintWords Go.Proofs.YtcfndcjbgalnpaaDoorW.PrintLast
theorem getD_of {l : List C5} {i : Nat} {c : C5} (h : l[i]? = some c) : l.getD i z5 = c := by rw [List.getD_eq_getElem?_getD, h]; rfl
set_option maxHeartbeats 4000000 in
theorem mend_calls {w : World} {b cap : Nat} {L : List C5} (hR : RowAt w b L) (o m : Nat) (hm : 0 < m) (hl : o + m ≤ L.length) (hL : L.length ≤ 12000) (hcap : m ≤ cap) :
    Calls Tryd.prog 38 #[.slice (some ⟨b, 5 * o, none⟩) m cap] w (fun e w' => e = .returned (.tuple #[]) ∧ RowAt w' b (splice L o (mendL ((L.drop o).take m))) ∧ w.grownBy w' (some b)) := by
  have HR := Aside0.mk hR
  clear hR
  go_enter Tryd.func38, Tryd.ntmps38
  go_wp2_with fail
  refine (clone_calls HR.out o m hm hl hL hcap).mono ?_
  rintro e w1 ⟨b', cap', rfl, h1, h2, h3, hR1, hB1⟩
  generalize hM : (L.drop o).take m = M at *
  have hMl : M.length = m := by rw [← hM, List.length_take, List.length_drop]; omega
  have hMg : ∀ i c, M[i]? = some c → L[o + i]? = some c := fun i c h => by
    have hi : i < m := by have := (List.getElem?_eq_some_iff.1 h).1; omega
    rw [← hM, List.getElem?_take_of_lt hi, List.getElem?_drop] at h
    exact h
  have HR1 := Aside0.mk hR1
  have HB1 := Aside0.mk hB1
  have hbw := HR.out.lt
  have HS := Aside0.mk (HR.out.below hB1)
  have MEQ := Aside0.mk hM
  clear hR1 hB1 hM
  have hbb : b' ≠ b := by omega
  have hbc : b ≠ b' := Ne.symm hbb
  go_wp2
  go_loopw [10] (fun v10 wr => ∃ i : Nat, i ≤ m ∧ v10 = .int .i64 i ∧ Aside0 (RowAt wr b (splice L o (mendTo M i))) ∧ Aside0 (RowAt wr b' M) ∧ Aside0 (w.grownBy wr (some b))) (fun v10 _ => m - (intOf v10).toNat)
  case atStart => exact ⟨0, Nat.zero_le _, rfl, ⟨by simpa [splice, mendTo] using HS.out⟩, HR1, ⟨grown_of_none HB1.out⟩⟩
  case round =>
    obtain ⟨i, hi, rfl, HR2, HM2, HG2⟩ := hrel
    clear HS HR1 HB1
    by_cases hlt : i < m
    · obtain ⟨c, hc⟩ : ∃ c, M[i]? = some c := ⟨M[i], List.getElem?_eq_getElem (by omega)⟩
      have hgd := getD_of hc
      have hlen : o + i < (splice L o (mendTo M i)).length := by rw [splice_length _ _ _ (by rw [mendTo_length]; omega)]; omega
      have HL := Aside0.mk hlen
      clear hlen
      have yes : ∀ w6, aloneL M i = true → RowAt w6 b ((splice L o (mendTo M i)).set (o + i) ⟨32, c.f, c.g, c.b, 0⟩) → RowAt w6 b (splice L o (mendTo M (i + 1))) := by
        intro w6 ha h
        have hs := splice_next L (mendTo M i) o ⟨32, c.f, c.g, c.b, 0⟩ (by rw [mendTo_length]; omega)
        rw [mendTo_length] at hs
        rw [hs] at h
        rw [mendTo_succ, mendC, if_pos ha, hgd]
        exact h
      have no : ∀ w6, aloneL M i = false → RowAt w6 b (splice L o (mendTo M i)) → RowAt w6 b (splice L o (mendTo M (i + 1))) := by
        intro w6 ha h
        have hs := splice_keep L (mendTo M i) o c (by rw [mendTo_length]; exact hMg i c hc)
        rw [mendTo_succ, mendC, if_neg (by rw [ha]; decide), hgd, ← hs]
        exact h
      have YES := Aside0.mk yes
      have NO := Aside0.mk no
      clear yes no
      have cases7 : (c.w = 1 ∧ ((i : Int) + 1 == (m : Int)) = true) ∨ (∃ n, M[i + 1]? = some n ∧ c.w = 1 ∧ ((i : Int) + 1 == (m : Int)) = false ∧ i + 1 < m ∧ n.w = 2) ∨ (∃ n, M[i + 1]? = some n ∧ c.w = 1 ∧ ((i : Int) + 1 == (m : Int)) = false ∧ i + 1 < m ∧ (n.w != 2) = true)
          ∨ (c.w = 2 ∧ i = 0) ∨ (∃ j n, i = j + 1 ∧ M[j]? = some n ∧ c.w = 2 ∧ n.w = 1) ∨ (∃ j n, i = j + 1 ∧ M[j]? = some n ∧ c.w = 2 ∧ (n.w != 1) = true) ∨ ((c.w == 1) = false ∧ (c.w == 2) = false) := by
        by_cases h1 : c.w = 1
        · by_cases h2 : i + 1 = m
          · exact .inl ⟨h1, beq_iff_eq.2 (by omega)⟩
          · have h3 : i + 1 < M.length := by omega
            by_cases h4 : (M[i + 1]).w = 2
            · exact .inr (.inl ⟨M[i + 1], List.getElem?_eq_getElem h3, h1, beq_eq_false_iff_ne.2 (by omega), by omega, h4⟩)
            · exact .inr (.inr (.inl ⟨M[i + 1], List.getElem?_eq_getElem h3, h1, beq_eq_false_iff_ne.2 (by omega), by omega, by simpa using h4⟩))
        · by_cases h2 : c.w = 2
          · cases i with
            | zero => exact .inr (.inr (.inr (.inl ⟨h2, rfl⟩)))
            | succ j =>
              have h3 : j < M.length := by omega
              by_cases h4 : (M[j]).w = 1
              · exact .inr (.inr (.inr (.inr (.inl ⟨j, M[j], rfl, List.getElem?_eq_getElem h3, h2, h4⟩))))
              · exact .inr (.inr (.inr (.inr (.inr (.inl ⟨j, M[j], rfl, List.getElem?_eq_getElem h3, h2, by simpa using h4⟩)))))
          · exact .inr (.inr (.inr (.inr (.inr (.inr ⟨beq_eq_false_iff_ne.2 h1, beq_eq_false_iff_ne.2 h2⟩)))))
      have hz0 : wr.cell? ⟨b', i * 5, none⟩ = some (.int .i32 c.r) := by rw [Nat.mul_comm]; exact HM2.out.cell hc 0 (by omega)
      have hz1 : wr.cell? ⟨b', i * 5 + 1, none⟩ = some (.int .i64 c.f) := by rw [Nat.mul_comm]; exact HM2.out.cell hc 1 (by omega)
      have hz2 : wr.cell? ⟨b', i * 5 + 2, none⟩ = some (.int .i64 c.g) := by rw [Nat.mul_comm]; exact HM2.out.cell hc 2 (by omega)
      have hz3 : wr.cell? ⟨b', i * 5 + 3, none⟩ = some (.int .i64 c.b) := by rw [Nat.mul_comm]; exact HM2.out.cell hc 3 (by omega)
      have hz4 : wr.cell? ⟨b', i * 5 + 4, none⟩ = some (.int .i64 c.w) := by rw [Nat.mul_comm]; exact HM2.out.cell hc 4 (by omega)
      go_upto_region 4 with (first
        | ((with_reducible refine gate_dst (N := 4) rfl ?_); refine box_event ?hg (N := 4) ?hd (cs := #[.int .i32 0, .int .i64 0, .int .i64 0, .int .i64 0, .int .i64 0]) (t := 32) ?hr ?_; (case hd => rfl); (case hg => rfl); (case hr => first | (go_simp; done) | (go_simp; rfl)); intro gb hg w3 hbox hb; have HX := Aside0.mk hbox; have HB3 := Aside0.mk hb; have HG := Aside0.mk hg; clear hbox hb hg hz0 hz1 hz2 hz3 hz4)
        | ((with_reducible refine gate_store (t := 32) (p := 4) (v := .tmp 14) rfl ?_); refine store_cell (o' := 0) (L := [z5]) ⟨[], HX.out⟩ 0 (by simp) c 32 (.tmp 4) (.tmp 14) rfl rfl rfl info_cell rfl rfl rfl ?_; intro w4 HX4 HG4; have HX4 := Aside0.mk HX4; have HG4 := Aside0.mk HG4; clear HX))
      have hgs := HG.out
      have hb1 := HR2.out.lt
      have hb2 := HM2.out.lt
      have hws := HG2.out.size
      have HR4 := Aside0.mk ((HR2.out.below HB3.out).grown HG4.out (fun e => by injection e with e; omega))
      have HM4 := Aside0.mk ((HM2.out.below HB3.out).grown HG4.out (fun e => by injection e with e; omega))
      have HG6 := Aside0.mk (grown_new (grown_below HG2.out HB3.out) HG4.out (by omega))
      have hy1 : w4.cell? ⟨gb, 1, none⟩ = some (.int .i64 c.f) := HX4.out.cell (i := 0) rfl 1 (by omega)
      have hy2 : w4.cell? ⟨gb, 2, none⟩ = some (.int .i64 c.g) := HX4.out.cell (i := 0) rfl 2 (by omega)
      have hy3 : w4.cell? ⟨gb, 3, none⟩ = some (.int .i64 c.b) := HX4.out.cell (i := 0) rfl 3 (by omega)
      have hy4 : w4.cell? ⟨gb, 4, none⟩ = some (.int .i64 c.w) := HX4.out.cell (i := 0) rfl 4 (by omega)
      clear hgs hb1 hb2 hws HR2 HM2 HG2 HB3 HG4 HX4 HG
      have hbg : b ≤ w.heap.size := by omega
      rcases cases7 with ⟨hw, e1⟩ | ⟨n, hn, hw, e1, hl1, hnw⟩ | ⟨n, hn, hw, e1, hl1, hnw⟩ | ⟨hw, rfl⟩ | ⟨j, n, rfl, hn, hw, hnw⟩ | ⟨j, n, rfl, hn, hw, hnw⟩ | ⟨hw, hw2⟩
      · have ha : aloneL M i = true := by
          have e2 : i + 1 = m := by have := beq_iff_eq.1 e1; omega
          unfold aloneL
          rw [hgd, hw, hMl, e2]
          simp
        have HA := Aside0.mk ha
        clear ha hgd
        go_wp2_with ((with_reducible refine gate_store (t := 32) (p := 58) (v := .tmp 57) rfl ?_); refine store_cell (o' := 5 * o + i * 5) HR4.out (o + i) HL.out ⟨32, c.f, c.g, c.b, 0⟩ 32 (.tmp 58) (.tmp 57) rfl rfl rfl info_cell rfl (by omega) rfl ?_; intro w6 HR6 HG7; have HR6 := Aside0.mk HR6; have HG7 := Aside0.mk HG7)
        refine ⟨⟨i + 1, by omega, by go_num, ⟨YES.out w6 HA.out HR6.out⟩, ⟨HM4.out.grown HG7.out (fun e => hbb (Option.some.inj e))⟩, ⟨grown_trans HG6.out HG7.out⟩⟩, by simp [intOf] <;> omega⟩
      · have ha : aloneL M i = false := by
          unfold aloneL
          rw [hgd, hw, getD_of hn, hnw, hMl]
          simp
          omega
        have hzn : w4.cell? ⟨b', (i + 1) * 5 + 4, none⟩ = some (.int .i64 n.w) := by rw [Nat.mul_comm]; exact HM4.out.cell hn 4 (by omega)
        have HA := Aside0.mk ha
        clear ha hgd
        go_wp2_with fail
        refine ⟨⟨i + 1, by omega, by go_num, ⟨NO.out w4 HA.out HR4.out⟩, HM4, HG6⟩, by simp [intOf] <;> omega⟩
      · have ha : aloneL M i = true := by
          unfold aloneL
          rw [hgd, hw, getD_of hn, hnw, hMl]
          simp
        have hzn : w4.cell? ⟨b', (i + 1) * 5 + 4, none⟩ = some (.int .i64 n.w) := by rw [Nat.mul_comm]; exact HM4.out.cell hn 4 (by omega)
        have HA := Aside0.mk ha
        clear ha hgd
        go_wp2_with ((with_reducible refine gate_store (t := 32) (p := 58) (v := .tmp 57) rfl ?_); refine store_cell (o' := 5 * o + i * 5) HR4.out (o + i) HL.out ⟨32, c.f, c.g, c.b, 0⟩ 32 (.tmp 58) (.tmp 57) rfl rfl rfl info_cell rfl (by omega) rfl ?_; intro w6 HR6 HG7; have HR6 := Aside0.mk HR6; have HG7 := Aside0.mk HG7)
        refine ⟨⟨i + 1, by omega, by go_num, ⟨YES.out w6 HA.out HR6.out⟩, ⟨HM4.out.grown HG7.out (fun e => hbb (Option.some.inj e))⟩, ⟨grown_trans HG6.out HG7.out⟩⟩, by simp [intOf] <;> omega⟩
      · have ha : aloneL M 0 = true := by
          unfold aloneL
          rw [hgd, hw]
          simp
        have HA := Aside0.mk ha
        clear ha hgd
        go_wp2_with ((with_reducible refine gate_store (t := 32) (p := 58) (v := .tmp 57) rfl ?_); refine store_cell (o' := 5 * o + 0 * 5) HR4.out (o + 0) HL.out ⟨32, c.f, c.g, c.b, 0⟩ 32 (.tmp 58) (.tmp 57) rfl rfl rfl info_cell rfl (by omega) rfl ?_; intro w6 HR6 HG7; have HR6 := Aside0.mk HR6; have HG7 := Aside0.mk HG7)
        refine ⟨⟨0 + 1, by omega, by go_num, ⟨YES.out w6 HA.out HR6.out⟩, ⟨HM4.out.grown HG7.out (fun e => hbb (Option.some.inj e))⟩, ⟨grown_trans HG6.out HG7.out⟩⟩, by simp [intOf] <;> omega⟩
      · have ha : aloneL M (j + 1) = false := by
          unfold aloneL
          rw [hgd, hw, Nat.add_sub_cancel, getD_of hn, hnw]
          simp
        have hzn : w4.cell? ⟨b', j * 5 + 4, none⟩ = some (.int .i64 n.w) := by rw [Nat.mul_comm]; exact HM4.out.cell hn 4 (by omega)
        have HA := Aside0.mk ha
        clear ha hgd
        go_wp2_with fail
        refine ⟨⟨(j + 1) + 1, by omega, by go_num, ⟨NO.out w4 HA.out HR4.out⟩, HM4, HG6⟩, by simp [intOf] <;> omega⟩
      · have ha : aloneL M (j + 1) = true := by
          unfold aloneL
          rw [hgd, hw, Nat.add_sub_cancel, getD_of hn, hnw]
          simp
        have hzn : w4.cell? ⟨b', j * 5 + 4, none⟩ = some (.int .i64 n.w) := by rw [Nat.mul_comm]; exact HM4.out.cell hn 4 (by omega)
        have HA := Aside0.mk ha
        clear ha hgd
        go_wp2_with ((with_reducible refine gate_store (t := 32) (p := 58) (v := .tmp 57) rfl ?_); refine store_cell (o' := 5 * o + (j + 1) * 5) HR4.out (o + (j + 1)) HL.out ⟨32, c.f, c.g, c.b, 0⟩ 32 (.tmp 58) (.tmp 57) rfl rfl rfl info_cell rfl (by omega) rfl ?_; intro w6 HR6 HG7; have HR6 := Aside0.mk HR6; have HG7 := Aside0.mk HG7)
        refine ⟨⟨(j + 1) + 1, by omega, by go_num, ⟨YES.out w6 HA.out HR6.out⟩, ⟨HM4.out.grown HG7.out (fun e => hbb (Option.some.inj e))⟩, ⟨grown_trans HG6.out HG7.out⟩⟩, by simp [intOf] <;> omega⟩
      · have ha : aloneL M i = false := by
          unfold aloneL
          rw [hgd, hw, hw2]
          rfl
        have HA := Aside0.mk ha
        clear ha hgd
        go_wp2_with fail
        refine ⟨⟨i + 1, by omega, by go_num, ⟨NO.out w4 HA.out HR4.out⟩, HM4, HG6⟩, by simp [intOf] <;> omega⟩
    · obtain rfl : i = m := by omega
      go_wp2
      go_end0
      refine ⟨rfl, ?_, HG2.out⟩
      rw [MEQ.out, mendL, hMl]
      exact HR2.out
end Go.Proofs.YtcfndcjbgalnpaaDoor.Hand
namespace Go.Proofs.YtcfndcjbgalnpaaDoor.PB
open Go.RowKit Go.Proofs.YtcfndcjbgalnpaaDoorW.PrintWords Go.Proofs.YtcfndcjbgalnpaaDoorW.PrintLast Go.Proofs.YtcfndcjbgalnpaaDoorW.PrintMore
attribute [local go_sem] max2_int min2_int max_two min_two max_three min_three max_four min_four
open Go.Proofs.YtcfndcjbgalnpaaDoor.Hand
set_option linter.unusedVariables false
set_option linter.unusedSimpArgs false
def errW : Option Int → Value
  | none => .nilIface
  | some c => .iface 0 (.int .i64 c)
theorem errW_none : errW none = .nilIface := rfl
theorem errW_some (c : Int) : errW (some c) = .iface 0 (.int .i64 c) := rfl
end Go.Proofs.YtcfndcjbgalnpaaDoor.PB
namespace Go.Proofs.YtcfndcjbgalnpaaDoor.PB
open Go.RowKit Go.Proofs.YtcfndcjbgalnpaaDoorW.PrintWords Go.Proofs.YtcfndcjbgalnpaaDoorW.PrintLast Go.Proofs.YtcfndcjbgalnpaaDoorW.PrintMore
attribute [local go_sem] max2_int min2_int max_two min_two max_three min_three max_four min_four
open Go.Proofs.YtcfndcjbgalnpaaDoor.Hand
set_option linter.unusedVariables false
set_option linter.unusedSimpArgs false
def cell_colour.f (a0 : Int) : Option (Bool) := if a0 ≥ 0 then (if a0 ≤ 256 then (some true) else (if a0 ≥ 16777216 then (some (decide (a0 < 33554432))) else (some false))) else (if a0 ≥ 16777216 then (some (decide (a0 < 33554432))) else (some false))
set_option maxHeartbeats 8000000 in
set_option maxRecDepth 100000 in
theorem cell_colour.calls (a0 : Int) (r : Bool) (w : World) (h : cell_colour.f a0 = some r) :
    Calls Tryd.prog 35 #[.int .i64 a0] w fun e w' => e = .returned (.bool r) ∧ Drawn0 w w' := by
  have H : (if a0 ≥ 0 then (if a0 ≤ 256 then (some true) else (if a0 ≥ 16777216 then (some (decide (a0 < 33554432))) else (some false))) else (if a0 ≥ 16777216 then (some (decide (a0 < 33554432))) else (some false))) = some r := h
  clear h
  by_cases c2 : a0 ≥ 0
  · rw [if_pos c2] at H
    have c2b0 : decide (0 ≤ a0) = true := decide_eq_true c2
    clear c2
    by_cases c3 : a0 ≤ 256
    · rw [if_pos c3] at H
      have c3b0 : decide (a0 ≤ 256) = true := decide_eq_true c3
      clear c3
      obtain rfl := Option.some.inj H
      go_enter Tryd.func35, Tryd.ntmps35
      go_wp2
      go_ret
      exact ⟨by first | rfl | (simp; done) | (simp [*]; done), by repeat (first | exact Drawn0.refl _ | apply Drawn0.step)⟩
    · rw [if_neg c3] at H
      have c3b0 : decide (a0 ≤ 256) = false := decide_eq_false c3
      clear c3
      by_cases c4 : a0 ≥ 16777216
      · rw [if_pos c4] at H
        have c4b0 : decide (16777216 ≤ a0) = true := decide_eq_true c4
        clear c4
        obtain rfl := Option.some.inj H
        go_enter Tryd.func35, Tryd.ntmps35
        go_wp2
        go_ret
        exact ⟨by first | rfl | (simp; done) | (simp [*]; done), by repeat (first | exact Drawn0.refl _ | apply Drawn0.step)⟩
      · rw [if_neg c4] at H
        have c4b0 : decide (16777216 ≤ a0) = false := decide_eq_false c4
        clear c4
        obtain rfl := Option.some.inj H
        go_enter Tryd.func35, Tryd.ntmps35
        go_wp2
        go_ret
        exact ⟨by first | rfl | (simp; done) | (simp [*]; done), by repeat (first | exact Drawn0.refl _ | apply Drawn0.step)⟩
  · rw [if_neg c2] at H
    have c2b0 : decide (0 ≤ a0) = false := decide_eq_false c2
    clear c2
    by_cases c5 : a0 ≥ 16777216
    · rw [if_pos c5] at H
      have c5b0 : decide (16777216 ≤ a0) = true := decide_eq_true c5
      clear c5
      obtain rfl := Option.some.inj H
      go_enter Tryd.func35, Tryd.ntmps35
      go_wp2
      go_ret
      exact ⟨by first | rfl | (simp; done) | (simp [*]; done), by repeat (first | exact Drawn0.refl _ | apply Drawn0.step)⟩
    · rw [if_neg c5] at H
      have c5b0 : decide (16777216 ≤ a0) = false := decide_eq_false c5
      clear c5
      obtain rfl := Option.some.inj H
      go_enter Tryd.func35, Tryd.ntmps35
      go_wp2
      go_ret
      exact ⟨by first | rfl | (simp; done) | (simp [*]; done), by repeat (first | exact Drawn0.refl _ | apply Drawn0.step)⟩
def cell_MayAttr.f (a0_0 : Int) (a0_1 : Int) (a0_2 : Int) : Option (Bool) := if a0_0 ≥ 0 then (if a0_0 ≤ 255 then ((cell_colour.f a0_1).bind fun t102 => (if t102 = true then ((cell_colour.f a0_2).bind fun t103 => (some t103)) else (some false))) else (some false)) else (some false)
set_option maxHeartbeats 8000000 in
set_option maxRecDepth 100000 in
theorem cell_MayAttr.calls (a0_0 : Int) (a0_1 : Int) (a0_2 : Int) (r : Bool) (w : World) (h : cell_MayAttr.f a0_0 a0_1 a0_2 = some r) :
    Calls Tryd.prog 11 #[.agg #[.int .i64 a0_0, .int .i64 a0_1, .int .i64 a0_2]] w fun e w' => e = .returned (.bool r) ∧ Below w.heap.size w w' := by
  have hu23 := Tryd.underlying23
  have HB := Aside0.mk (Below.refl w.heap.size w)
  have H : (if a0_0 ≥ 0 then (if a0_0 ≤ 255 then ((cell_colour.f a0_1).bind fun t102 => (if t102 = true then ((cell_colour.f a0_2).bind fun t103 => (some t103)) else (some false))) else (some false)) else (some false)) = some r := h
  clear h
  by_cases c2 : a0_0 ≥ 0
  · rw [if_pos c2] at H
    have c2b0 : decide (0 ≤ a0_0) = true := decide_eq_true c2
    clear c2
    by_cases c3 : a0_0 ≤ 255
    · rw [if_pos c3] at H
      have c3b0 : decide (a0_0 ≤ 255) = true := decide_eq_true c3
      clear c3
      replace H := Option.bind_eq_some_iff.mp H
      obtain ⟨t102, A40, H⟩ := H
      replace H : (if t102 = true then ((cell_colour.f a0_2).bind fun t103 => (some t103)) else (some false)) = some r := H
      have A4 := Aside0.mk A40
      clear A40
      by_cases c5 : t102 = true
      · subst c5
        have H1 : ((cell_colour.f a0_2).bind fun t103 => (some t103)) = some r := by rw [if_pos rfl] at H; exact H
        clear H
        have H := H1
        clear H1
        replace H := Option.bind_eq_some_iff.mp H
        obtain ⟨t103, A60, H⟩ := H
        replace H : (some t103) = some r := H
        have A6 := Aside0.mk A60
        clear A60
        obtain rfl := Option.some.inj H
        go_enter Tryd.func11, Tryd.ntmps11
        go_wp2_with (first | ((with_reducible refine gate_dst (N := 1) rfl ?_); refine box_event ?hg (N := 1) ?hd (cs := #[.int .i64 a0_0, .int .i64 a0_1, .int .i64 a0_2]) (t := 23) ?hr ?_; (case hd => rfl); (case hg => rfl); (case hr => first | (go_simp; done) | (go_simp; rfl)); intro gb101 hg w7 hbox hb; have n0_ := Aside0.mk (below_step (by repeat (first | (with_reducible first | exact HB.out | apply below_alloc | apply pw_below_drewN | apply below_drew1) | exact HB.out)) hb); have n1_ := Aside0.mk (hbox); have n2_ := Aside0.mk ((by rw [hg]; exact (below_size (by repeat (first | (with_reducible first | exact HB.out | apply below_alloc | apply pw_below_drewN | apply below_drew1) | exact HB.out))) : w.heap.size ≤ gb101)); have n3_ := Aside0.mk ((by rw [hg]; exact (below_size (by repeat (first | (with_reducible first | exact HB.out | apply below_alloc | apply pw_below_drewN | apply below_drew1) | exact HB.out))) : w.heap.size ≤ gb101)); clear HB; have HB := n0_; have BK101 := n1_; have GW101 := n2_; have GE101 := n3_; clear n0_ n1_ n2_ n3_; clear hb hbox hg; have hcz8_0 : w7.cell? ⟨gb101, 0, none⟩ = some (.int .i64 a0_0) := (blk_cell BK101.out 0).trans rfl; have hcz8_1 : w7.cell? ⟨gb101, 1, none⟩ = some (.int .i64 a0_1) := (blk_cell BK101.out 1).trans rfl; have hcz8_2 : w7.cell? ⟨gb101, 2, none⟩ = some (.int .i64 a0_2) := (blk_cell BK101.out 2).trans rfl; have hfz8_0 := blk_frozen BK101.out 0; have hfz8_1 := blk_frozen BK101.out 1; have hfz8_2 := blk_frozen BK101.out 2) | (go_at_call 35; (with_reducible refine (cell_colour.calls a0_1 true _ A4.out).mono ?_); rintro e w' ⟨rfl, ⟨nd, rfl⟩⟩) | (go_at_call 35; (with_reducible refine (cell_colour.calls a0_2 t103 _ A6.out).mono ?_); rintro e w' ⟨rfl, ⟨nd, rfl⟩⟩))
        go_ret
        exact ⟨by first | rfl | (simp [errW_none, errW_some] <;> rfl) | (simp [*, errW_none, errW_some] <;> rfl), by repeat (first | (with_reducible first | exact HB.out | apply below_alloc | apply pw_below_drewN | apply below_drew1 | refine below_set ?_ GE101.out) | exact HB.out)⟩
      · replace c5 := Bool.eq_false_iff.mpr c5
        subst c5
        have H1 : (some false) = some r := by rw [if_neg (show ¬ (false = true) by decide)] at H; exact H
        clear H
        have H := H1
        clear H1
        obtain rfl := Option.some.inj H
        go_enter Tryd.func11, Tryd.ntmps11
        go_wp2_with (first | ((with_reducible refine gate_dst (N := 1) rfl ?_); refine box_event ?hg (N := 1) ?hd (cs := #[.int .i64 a0_0, .int .i64 a0_1, .int .i64 a0_2]) (t := 23) ?hr ?_; (case hd => rfl); (case hg => rfl); (case hr => first | (go_simp; done) | (go_simp; rfl)); intro gb101 hg w9 hbox hb; have n0_ := Aside0.mk (below_step (by repeat (first | (with_reducible first | exact HB.out | apply below_alloc | apply pw_below_drewN | apply below_drew1) | exact HB.out)) hb); have n1_ := Aside0.mk (hbox); have n2_ := Aside0.mk ((by rw [hg]; exact (below_size (by repeat (first | (with_reducible first | exact HB.out | apply below_alloc | apply pw_below_drewN | apply below_drew1) | exact HB.out))) : w.heap.size ≤ gb101)); have n3_ := Aside0.mk ((by rw [hg]; exact (below_size (by repeat (first | (with_reducible first | exact HB.out | apply below_alloc | apply pw_below_drewN | apply below_drew1) | exact HB.out))) : w.heap.size ≤ gb101)); clear HB; have HB := n0_; have BK101 := n1_; have GW101 := n2_; have GE101 := n3_; clear n0_ n1_ n2_ n3_; clear hb hbox hg; have hcz10_0 : w9.cell? ⟨gb101, 0, none⟩ = some (.int .i64 a0_0) := (blk_cell BK101.out 0).trans rfl; have hcz10_1 : w9.cell? ⟨gb101, 1, none⟩ = some (.int .i64 a0_1) := (blk_cell BK101.out 1).trans rfl; have hcz10_2 : w9.cell? ⟨gb101, 2, none⟩ = some (.int .i64 a0_2) := (blk_cell BK101.out 2).trans rfl; have hfz10_0 := blk_frozen BK101.out 0; have hfz10_1 := blk_frozen BK101.out 1; have hfz10_2 := blk_frozen BK101.out 2) | (go_at_call 35; (with_reducible refine (cell_colour.calls a0_1 false _ A4.out).mono ?_); rintro e w' ⟨rfl, ⟨nd, rfl⟩⟩))
        go_ret
        exact ⟨by first | rfl | (simp [errW_none, errW_some] <;> rfl) | (simp [*, errW_none, errW_some] <;> rfl), by repeat (first | (with_reducible first | exact HB.out | apply below_alloc | apply pw_below_drewN | apply below_drew1 | refine below_set ?_ GE101.out) | exact HB.out)⟩
    · rw [if_neg c3] at H
      have c3b0 : decide (a0_0 ≤ 255) = false := decide_eq_false c3
      clear c3
      obtain rfl := Option.some.inj H
      go_enter Tryd.func11, Tryd.ntmps11
      go_wp2_with (first | ((with_reducible refine gate_dst (N := 1) rfl ?_); refine box_event ?hg (N := 1) ?hd (cs := #[.int .i64 a0_0, .int .i64 a0_1, .int .i64 a0_2]) (t := 23) ?hr ?_; (case hd => rfl); (case hg => rfl); (case hr => first | (go_simp; done) | (go_simp; rfl)); intro gb101 hg w11 hbox hb; have n0_ := Aside0.mk (below_step (by repeat (first | (with_reducible first | exact HB.out | apply below_alloc | apply pw_below_drewN | apply below_drew1) | exact HB.out)) hb); have n1_ := Aside0.mk (hbox); have n2_ := Aside0.mk ((by rw [hg]; exact (below_size (by repeat (first | (with_reducible first | exact HB.out | apply below_alloc | apply pw_below_drewN | apply below_drew1) | exact HB.out))) : w.heap.size ≤ gb101)); have n3_ := Aside0.mk ((by rw [hg]; exact (below_size (by repeat (first | (with_reducible first | exact HB.out | apply below_alloc | apply pw_below_drewN | apply below_drew1) | exact HB.out))) : w.heap.size ≤ gb101)); clear HB; have HB := n0_; have BK101 := n1_; have GW101 := n2_; have GE101 := n3_; clear n0_ n1_ n2_ n3_; clear hb hbox hg; have hcz12_0 : w11.cell? ⟨gb101, 0, none⟩ = some (.int .i64 a0_0) := (blk_cell BK101.out 0).trans rfl; have hcz12_1 : w11.cell? ⟨gb101, 1, none⟩ = some (.int .i64 a0_1) := (blk_cell BK101.out 1).trans rfl; have hcz12_2 : w11.cell? ⟨gb101, 2, none⟩ = some (.int .i64 a0_2) := (blk_cell BK101.out 2).trans rfl; have hfz12_0 := blk_frozen BK101.out 0; have hfz12_1 := blk_frozen BK101.out 1; have hfz12_2 := blk_frozen BK101.out 2))
      go_ret
      exact ⟨by first | rfl | (simp [errW_none, errW_some] <;> rfl) | (simp [*, errW_none, errW_some] <;> rfl), by repeat (first | (with_reducible first | exact HB.out | apply below_alloc | apply pw_below_drewN | apply below_drew1 | refine below_set ?_ GE101.out) | exact HB.out)⟩
  · rw [if_neg c2] at H
    have c2b0 : decide (0 ≤ a0_0) = false := decide_eq_false c2
    clear c2
    obtain rfl := Option.some.inj H
    go_enter Tryd.func11, Tryd.ntmps11
    go_wp2_with (first | ((with_reducible refine gate_dst (N := 1) rfl ?_); refine box_event ?hg (N := 1) ?hd (cs := #[.int .i64 a0_0, .int .i64 a0_1, .int .i64 a0_2]) (t := 23) ?hr ?_; (case hd => rfl); (case hg => rfl); (case hr => first | (go_simp; done) | (go_simp; rfl)); intro gb101 hg w13 hbox hb; have n0_ := Aside0.mk (below_step (by repeat (first | (with_reducible first | exact HB.out | apply below_alloc | apply pw_below_drewN | apply below_drew1) | exact HB.out)) hb); have n1_ := Aside0.mk (hbox); have n2_ := Aside0.mk ((by rw [hg]; exact (below_size (by repeat (first | (with_reducible first | exact HB.out | apply below_alloc | apply pw_below_drewN | apply below_drew1) | exact HB.out))) : w.heap.size ≤ gb101)); have n3_ := Aside0.mk ((by rw [hg]; exact (below_size (by repeat (first | (with_reducible first | exact HB.out | apply below_alloc | apply pw_below_drewN | apply below_drew1) | exact HB.out))) : w.heap.size ≤ gb101)); clear HB; have HB := n0_; have BK101 := n1_; have GW101 := n2_; have GE101 := n3_; clear n0_ n1_ n2_ n3_; clear hb hbox hg; have hcz14_0 : w13.cell? ⟨gb101, 0, none⟩ = some (.int .i64 a0_0) := (blk_cell BK101.out 0).trans rfl; have hcz14_1 : w13.cell? ⟨gb101, 1, none⟩ = some (.int .i64 a0_1) := (blk_cell BK101.out 1).trans rfl; have hcz14_2 : w13.cell? ⟨gb101, 2, none⟩ = some (.int .i64 a0_2) := (blk_cell BK101.out 2).trans rfl; have hfz14_0 := blk_frozen BK101.out 0; have hfz14_1 := blk_frozen BK101.out 1; have hfz14_2 := blk_frozen BK101.out 2))
    go_ret
    exact ⟨by first | rfl | (simp [errW_none, errW_some] <;> rfl) | (simp [*, errW_none, errW_some] <;> rfl), by repeat (first | (with_reducible first | exact HB.out | apply below_alloc | apply pw_below_drewN | apply below_drew1 | refine below_set ?_ GE101.out) | exact HB.out)⟩
def cell_May.j0 : Nat → Bool → Int → Bool → Int → Int → Int → Int → Int → Option (Bool)
  | 0, _, _, _, _, _, _, _, _ => none
  | k + 1, x3, x5, x6, x105000, x105001, x105002, x105003, x105004 => if x6 = true then ((cell_Width.f x105000).bind fun t105 => (if t105 = (wrap64 (x105004 + 1)) then ((cell_MayAttr.f x105001 x105002 x105003).bind fun t106 => (some t106)) else (some false))) else (if x5 = 2 then (if x105000 = 0 then ((cell_MayAttr.f x105001 x105002 x105003).bind fun t107 => (some t107)) else (some false)) else (if x3 = true then ((cell_MayAttr.f x105001 x105002 x105003).bind fun t108 => (some t108)) else (some false)))
def cell_May.f (k : Nat) (a0_0 : Int) (a0_1 : Int) (a0_2 : Int) (a0_3 : Int) (a0_4 : Int) : Option (Bool) := if a0_4 = 0 then (cell_May.j0 k false a0_4 (a0_4 == 0) a0_0 a0_1 a0_2 a0_3 a0_4) else (cell_May.j0 k false a0_4 (a0_4 == 1) a0_0 a0_1 a0_2 a0_3 a0_4)
def cell_May.T5 : Bool × List (List Nat × List Nat) := (true, [([], []), ([0], [0]), ([1], [1]), ([], []), ([3], [3]), ([4], [4]), ([2, 5], [2, 5]), ([6, 2, 0, 1, 2, 3, 4, 5, 6], [6])])
def cell_May.B5 : List Nat := [0, 1, 3, 0, 8, 24, 63, 127]
theorem cell_May.tab5 : rtab .any (opsOf Tryd.f25 5) = cell_May.T5 := by kernel_rfl
theorem cell_May.bits5 : waitsOk cell_May.T5.2 cell_May.B5 = true := by kernel_rfl
set_option maxHeartbeats 8000000 in
set_option maxRecDepth 100000 in
theorem cell_May.calls (k : Nat) (a0_0 : Int) (a0_1 : Int) (a0_2 : Int) (a0_3 : Int) (a0_4 : Int) (r : Bool) (w : World) (hT : TabW w) (h : cell_May.f k a0_0 a0_1 a0_2 a0_3 a0_4 = some r) :
    Calls Tryd.prog 25 #[.agg #[.int .i32 a0_0, .int .i64 a0_1, .int .i64 a0_2, .int .i64 a0_3, .int .i64 a0_4]] w fun e w' => e = .returned (.bool r) ∧ Below w.heap.size w w' := by
  have HT := Aside0.mk hT
  clear hT
  have hu32 := Tryd.underlying32
  have hu23 := Tryd.underlying23
  have HB := Aside0.mk (Below.refl w.heap.size w)
  have H : (if a0_4 = 0 then (cell_May.j0 k false a0_4 (a0_4 == 0) a0_0 a0_1 a0_2 a0_3 a0_4) else (cell_May.j0 k false a0_4 (a0_4 == 1) a0_0 a0_1 a0_2 a0_3 a0_4)) = some r := h
  clear h
  have HC2 := Aside0.mk H
  clear H
  go_enter Tryd.func25, Tryd.ntmps25
  go_upto_if 6 with (first | ((with_reducible refine gate_dst (N := 1) rfl ?_); refine box_event ?hg (N := 1) ?hd (cs := #[.int .i32 a0_0, .int .i64 a0_1, .int .i64 a0_2, .int .i64 a0_3, .int .i64 a0_4]) (t := 32) ?hr ?_; (case hd => rfl); (case hg => rfl); (case hr => first | (go_simp; done) | (go_simp; rfl)); intro gb104 hg w3 hbox hb; have n0_ := Aside0.mk (below_step (by repeat (first | (with_reducible first | exact HB.out | apply below_alloc | apply pw_below_drewN | apply below_drew1) | exact HB.out)) hb); have n1_ := Aside0.mk (hbox); have n2_ := Aside0.mk ((by rw [hg]; exact (below_size (by repeat (first | (with_reducible first | exact HB.out | apply below_alloc | apply pw_below_drewN | apply below_drew1) | exact HB.out))) : w.heap.size ≤ gb104)); have n3_ := Aside0.mk ((by rw [hg]; exact (below_size (by repeat (first | (with_reducible first | exact HB.out | apply below_alloc | apply pw_below_drewN | apply below_drew1) | exact HB.out))) : w.heap.size ≤ gb104)); clear HB; have HB := n0_; have BK104 := n1_; have GW104 := n2_; have GE104 := n3_; clear n0_ n1_ n2_ n3_; clear hb hbox hg; have hcz4_0 : w3.cell? ⟨gb104, 0, none⟩ = some (.int .i32 a0_0) := (blk_cell BK104.out 0).trans rfl; have hcz4_1 : w3.cell? ⟨gb104, 1, none⟩ = some (.int .i64 a0_1) := (blk_cell BK104.out 1).trans rfl; have hcz4_2 : w3.cell? ⟨gb104, 2, none⟩ = some (.int .i64 a0_2) := (blk_cell BK104.out 2).trans rfl; have hcz4_3 : w3.cell? ⟨gb104, 3, none⟩ = some (.int .i64 a0_3) := (blk_cell BK104.out 3).trans rfl; have hcz4_4 : w3.cell? ⟨gb104, 4, none⟩ = some (.int .i64 a0_4) := (blk_cell BK104.out 4).trans rfl; have hfz4_0 := blk_frozen BK104.out 0; have hfz4_1 := blk_frozen BK104.out 1; have hfz4_2 := blk_frozen BK104.out 2; have hfz4_3 := blk_frozen BK104.out 3; have hfz4_4 := blk_frozen BK104.out 4))
  (try simp only [Act.put, List.setIfInBounds_toArray, List.set_cons_zero, List.set_cons_succ])
  go_cut [6] (fun v6 wc => ∃ (kq : Nat) (x6_1 : Bool), v6 = .bool x6_1 ∧ Aside0 (cell_May.j0 kq false a0_4 x6_1 a0_0 a0_1 a0_2 a0_3 a0_4 = some r) ∧ Aside0 (kq ≤ k) ∧ Aside0 (wc.heap[gb104]? = some (.cells #[.int .i32 a0_0, .int .i64 a0_1, .int .i64 a0_2, .int .i64 a0_3, .int .i64 a0_4] 32 (0, 0))) ∧ Aside0 (Below w.heap.size w wc))
  case first =>
    have H := HC2.out
    clear HC2
    by_cases c5 : a0_4 = 0
    · rw [if_pos c5] at H
      have c5b0 : (a0_4 == 0) = true := beq_iff_eq.mpr c5
      have c5b1 : (a0_4 != 0) = false := bne_eq_false_iff_eq.mpr c5
      clear c5
      (first | rw [c5b0] | (simp only [i64_w, i32_w]; rw [c5b0]) | skip)
      have H' := Aside0.mk H
      clear H
      go_wp2
      go_meet
      case rel => exact ⟨_, ((a0_4 == 0)), (by first | rfl | (simp; done) | (simp [*]; done)), H', ⟨by first | omega | exact Nat.le_refl _⟩, ⟨by (with_reducible repeat (first | refine blk_drewN ?_ _ | refine blk_drew ?_ | refine blk_alloc ?_ _)); exact BK104.out⟩, ⟨by repeat (first | (with_reducible first | exact HB.out | apply below_alloc | apply pw_below_drewN | apply below_drew1 | refine below_set ?_ GE104.out) | exact HB.out)⟩⟩
    · rw [if_neg c5] at H
      have c5b0 : (a0_4 == 0) = false := beq_eq_false_iff_ne.mpr c5
      have c5b1 : (a0_4 != 0) = true := bne_iff_ne.mpr c5
      (first | rw [c5b0] | (simp only [i64_w, i32_w]; rw [c5b0]) | skip)
      have H' := Aside0.mk H
      clear H
      go_wp2
      go_meet
      case rel => exact ⟨_, ((a0_4 == 1)), (by first | rfl | (simp; done) | (simp [*]; done)), H', ⟨by first | omega | exact Nat.le_refl _⟩, ⟨by (with_reducible repeat (first | refine blk_drewN ?_ _ | refine blk_drew ?_ | refine blk_alloc ?_ _)); exact BK104.out⟩, ⟨by repeat (first | (with_reducible first | exact HB.out | apply below_alloc | apply pw_below_drewN | apply below_drew1 | refine below_set ?_ GE104.out) | exact HB.out)⟩⟩
  case rest =>
    clear HC2
    try clear c2
    try clear p2
    try clear c5
    try clear c5b0
    try clear c5b1
    try clear hcz4_0
    try clear hcz4_1
    try clear hcz4_2
    try clear hcz4_3
    try clear hcz4_4
    try clear hfz4_0
    try clear hfz4_1
    try clear hfz4_2
    try clear hfz4_3
    try clear hfz4_4
    obtain ⟨kq, x6_1, rfl, HA, HJ1, BK104, HB⟩ := hcut
    cases kq with
    | zero => exact absurd HA.out (by simp [cell_May.j0])
    | succ kj1 =>
      have H := HA.out
      clear HA
      simp only [cell_May.j0] at H
      by_cases c6 : x6_1 = true
      · subst c6
        have H1 : ((cell_Width.f a0_0).bind fun t105 => (if t105 = (wrap64 (a0_4 + 1)) then ((cell_MayAttr.f a0_1 a0_2 a0_3).bind fun t106 => (some t106)) else (some false))) = some r := by rw [if_pos rfl] at H; exact H
        clear H
        have H := H1
        clear H1
        replace H := Option.bind_eq_some_iff.mp H
        obtain ⟨t105, A70, H⟩ := H
        replace H : (if t105 = (wrap64 (a0_4 + 1)) then ((cell_MayAttr.f a0_1 a0_2 a0_3).bind fun t106 => (some t106)) else (some false)) = some r := H
        have A7 := Aside0.mk A70
        clear A70
        by_cases c8 : t105 = (wrap64 (a0_4 + 1))
        · rw [if_pos c8] at H
          have c8b0 : (t105 == (wrap64 (a0_4 + 1))) = true := beq_iff_eq.mpr c8
          have c8b1 : (t105 != (wrap64 (a0_4 + 1))) = false := bne_eq_false_iff_eq.mpr c8
          clear c8
          replace H := Option.bind_eq_some_iff.mp H
          obtain ⟨t106, A90, H⟩ := H
          replace H : (some t106) = some r := H
          have A9 := Aside0.mk A90
          clear A90
          obtain rfl := Option.some.inj H
          try go_wp2
          have n0_ := Aside0.mk (blk_drew BK104.out)
          have n1_ := Aside0.mk (below_drew1 HB.out)
          clear BK104
          clear HB
          have BK104 := n0_
          have HB := n1_
          clear n0_ n1_
          refine start_ (n := 8) (S := fun w' => w'.cell? ⟨gb104, 0, none⟩ = some (.int .i32 a0_0) ∧ w'.cell? ⟨gb104, 1, none⟩ = some (.int .i64 a0_1) ∧ w'.cell? ⟨gb104, 2, none⟩ = some (.int .i64 a0_2) ∧ w'.cell? ⟨gb104, 3, none⟩ = some (.int .i64 a0_3) ∧ w'.cell? ⟨gb104, 4, none⟩ = some (.int .i64 a0_4)) (ds := []) #[false, false, false, false, false, false, false, false] (by kernel_rfl) rfl rfl ⟨(blk_cell BK104.out 0).trans rfl, (blk_cell BK104.out 1).trans rfl, (blk_cell BK104.out 2).trans rfl, (blk_cell BK104.out 3).trans rfl, (blk_cell BK104.out 4).trans rfl⟩ (fun hHeld => ?_); refine with_tabW cell_May.tab5 cell_May.bits5 (fun HT_ HW_ => ?_)
          generalize wc.drew = w10 at BK104 HB hHeld ⊢
          refine pure_ (i := 0) (N := some 9) (v := ?_) (a' := ?_) #[true, false, false, false, false, false, false, false] rfl rfl (any_of HT_.out (by kernel_rfl)) (fun _ _ _ h => h) (Or.inl ⟨by rfl, ?_⟩) ?_ ?_
          rotate_left
          · intro w'
            go_simp
            with_reducible rfl
          rotate_left
          · simp only [Act.put, List.setIfInBounds_toArray, List.set_cons_zero, List.set_cons_succ, i64_w, i32_w]
            rfl
          refine pure_ (i := 3) (N := some 12) (v := ?_) (a' := ?_) #[true, false, false, true, false, false, false, false] rfl rfl (any_of HT_.out (by kernel_rfl)) (fun _ _ _ h => h) (Or.inl ⟨by rfl, ?_⟩) ?_ ?_
          rotate_left
          · intro w'
            go_simp
            with_reducible rfl
          rotate_left
          · simp only [Act.put, List.setIfInBounds_toArray, List.set_cons_zero, List.set_cons_succ, i64_w, i32_w]
            rfl
          refine take_ (i := 1) (N := some 10) (v := ?_) (a' := ?_) #[true, true, false, true, false, false, false, false] rfl rfl (take_ofW HT_.out HW_.out (by kernel_rfl)) (fun _ _ _ h => h) (Or.inl ⟨by rfl, ?_⟩) hHeld ?_ ?_
          rotate_left
          · rintro w' ⟨s0, s1, s2, s3, s4⟩
            go_simp
            with_reducible rfl
          rotate_left
          · simp only [Act.put, List.setIfInBounds_toArray, List.set_cons_zero, List.set_cons_succ, i64_w, i32_w]
            rfl
          refine take_ (i := 4) (N := some 13) (v := ?_) (a' := ?_) #[true, true, false, true, true, false, false, false] rfl rfl (take_ofW HT_.out HW_.out (by kernel_rfl)) (fun _ _ _ h => h) (Or.inl ⟨by rfl, ?_⟩) hHeld ?_ ?_
          rotate_left
          · rintro w' ⟨s0, s1, s2, s3, s4⟩
            go_simp
            with_reducible rfl
          rotate_left
          · simp only [Act.put, List.setIfInBounds_toArray, List.set_cons_zero, List.set_cons_succ, i64_w, i32_w]
            rfl
          refine pure_ (i := 5) (N := some 14) (v := ?_) (a' := ?_) #[true, true, false, true, true, true, false, false] rfl rfl (any_of HT_.out (by kernel_rfl)) (fun _ _ _ h => h) (Or.inl ⟨by rfl, ?_⟩) ?_ ?_
          rotate_left
          · intro w'
            go_simp
            with_reducible rfl
          rotate_left
          · simp only [Act.put, List.setIfInBounds_toArray, List.set_cons_zero, List.set_cons_succ, i64_w, i32_w]
            rfl
          refine one_ (i := 2) (N := some 11) #[true, true, true, true, true, true, false, false] rfl rfl (one_of HT_.out (by kernel_rfl)) (by decide) (fun K hK => ?_)
          refine goes_ Tryd.func15 (by kernel_rfl) rfl #[.int .i32 a0_0] (by rfl) rfl rfl (by (try simp only [List.map_toArray, List.map_cons, List.map_nil]); first | done | rfl | (simp only [List.length_drop, List.length_take]; rfl)) ?_
          with_reducible refine (cell_Width.calls a0_0 t105 _ ?side1 A7.out).mono ?_
          (case side1 => first | (with_reducible exact HT.out) | exact tabAt HT.out (by repeat (first | (with_reducible first | exact HB.out | apply below_alloc | apply pw_below_drewN | apply below_drew1 | refine below_set ?_ GE104.out) | exact HB.out)))
          rintro e w11 ⟨rfl, hb⟩
          refine ⟨_, rfl, ?_⟩
          have n0_ := Aside0.mk (blk_below (g := gb104) (o := .cells #[.int .i32 a0_0, .int .i64 a0_1, .int .i64 a0_2, .int .i64 a0_3, .int .i64 a0_4] 32 (0, 0)) (by (with_reducible repeat (first | refine blk_drewN ?_ _ | refine blk_drew ?_ | refine blk_alloc ?_ _)); exact BK104.out) hb)
          have n1_ := Aside0.mk (below_step (by repeat (first | (with_reducible first | exact HB.out | apply below_alloc | apply pw_below_drewN | apply below_drew1 | refine below_set ?_ GE104.out) | exact HB.out)) hb)
          clear BK104
          clear HB
          have BK104 := n0_
          have HB := n1_
          clear n0_ n1_
          (try clear hb)
          (try clear hb2)
          (try clear hk)
          (try clear hi)
          refine hK.out _ _ ⟨(blk_cell BK104.out 0).trans rfl, (blk_cell BK104.out 1).trans rfl, (blk_cell BK104.out 2).trans rfl, (blk_cell BK104.out 3).trans rfl, (blk_cell BK104.out 4).trans rfl⟩ (fun hHeld => ?_)
          clear hK K
          refine norm_ (a' := ?_) ?_ ?_
          rotate_left
          · show Act.put _ (some 11) _ = _
            simp only [Act.put, List.setIfInBounds_toArray, List.set_cons_zero, List.set_cons_succ, i64_w, i32_w]
            rfl
          refine pure_ (i := 6) (N := some 15) (v := ?_) (a' := ?_) #[true, true, true, true, true, true, true, false] rfl rfl (any_of HT_.out (by kernel_rfl)) (fun _ _ _ h => h) (Or.inl ⟨by rfl, ?_⟩) ?_ ?_
          rotate_left
          · intro w'
            go_simp
            with_reducible rfl
          rotate_left
          · simp only [Act.put, List.setIfInBounds_toArray, List.set_cons_zero, List.set_cons_succ, i64_w, i32_w]
            rfl
          refine pure_ (i := 7) (N := some 3) (v := ?_) (a' := ?_) #[true, true, true, true, true, true, true, true] rfl rfl (any_of HT_.out (by kernel_rfl)) (fun _ _ _ h => h) (Or.inl ⟨by rfl, ?_⟩) ?_ ?_
          rotate_left
          · intro w'
            go_simp
            with_reducible rfl
          rotate_left
          · simp only [Act.put, List.setIfInBounds_toArray, List.set_cons_zero, List.set_cons_succ, i64_w, i32_w]
            rfl
          refine done_ (done_of HT_.out (by kernel_rfl)) ?_
          have hcz12_0 : w11.cell? ⟨gb104, 0, none⟩ = some (.int .i32 a0_0) := (blk_cell BK104.out 0).trans rfl
          have hcz12_1 : w11.cell? ⟨gb104, 1, none⟩ = some (.int .i64 a0_1) := (blk_cell BK104.out 1).trans rfl
          have hcz12_2 : w11.cell? ⟨gb104, 2, none⟩ = some (.int .i64 a0_2) := (blk_cell BK104.out 2).trans rfl
          have hcz12_3 : w11.cell? ⟨gb104, 3, none⟩ = some (.int .i64 a0_3) := (blk_cell BK104.out 3).trans rfl
          have hcz12_4 : w11.cell? ⟨gb104, 4, none⟩ = some (.int .i64 a0_4) := (blk_cell BK104.out 4).trans rfl
          have hfz12_0 := blk_frozen BK104.out 0
          have hfz12_1 := blk_frozen BK104.out 1
          have hfz12_2 := blk_frozen BK104.out 2
          have hfz12_3 := blk_frozen BK104.out 3
          have hfz12_4 := blk_frozen BK104.out 4
          try go_wp2_with (first | (go_at_call 11; (with_reducible refine (cell_MayAttr.calls a0_1 a0_2 a0_3 t106 _ A9.out).mono ?_); rintro e w13 ⟨rfl, hb⟩; have n0_ := Aside0.mk (blk_below (g := gb104) (o := .cells #[.int .i32 a0_0, .int .i64 a0_1, .int .i64 a0_2, .int .i64 a0_3, .int .i64 a0_4] 32 (0, 0)) (by (with_reducible repeat (first | refine blk_drewN ?_ _ | refine blk_drew ?_ | refine blk_alloc ?_ _)); exact BK104.out) hb); have n1_ := Aside0.mk (below_step (by repeat (first | (with_reducible first | exact HB.out | apply below_alloc | apply pw_below_drewN | apply below_drew1 | refine below_set ?_ GE104.out) | exact HB.out)) hb); clear BK104; clear HB; have BK104 := n0_; have HB := n1_; clear n0_ n1_; (try clear hb); (try clear hb2); (try clear hk); (try clear hi)))
          go_ret
          exact ⟨by first | rfl | (simp [errW_none, errW_some] <;> rfl) | (simp [*, errW_none, errW_some] <;> rfl), by repeat (first | (with_reducible first | exact HB.out | apply below_alloc | apply pw_below_drewN | apply below_drew1 | refine below_set ?_ GE104.out) | exact HB.out)⟩
        · rw [if_neg c8] at H
          have c8b0 : (t105 == (wrap64 (a0_4 + 1))) = false := beq_eq_false_iff_ne.mpr c8
          have c8b1 : (t105 != (wrap64 (a0_4 + 1))) = true := bne_iff_ne.mpr c8
          obtain rfl := Option.some.inj H
          try go_wp2
          have n0_ := Aside0.mk (blk_drew BK104.out)
          have n1_ := Aside0.mk (below_drew1 HB.out)
          clear BK104
          clear HB
          have BK104 := n0_
          have HB := n1_
          clear n0_ n1_
          refine start_ (n := 8) (S := fun w' => w'.cell? ⟨gb104, 0, none⟩ = some (.int .i32 a0_0) ∧ w'.cell? ⟨gb104, 1, none⟩ = some (.int .i64 a0_1) ∧ w'.cell? ⟨gb104, 2, none⟩ = some (.int .i64 a0_2) ∧ w'.cell? ⟨gb104, 3, none⟩ = some (.int .i64 a0_3) ∧ w'.cell? ⟨gb104, 4, none⟩ = some (.int .i64 a0_4)) (ds := []) #[false, false, false, false, false, false, false, false] (by kernel_rfl) rfl rfl ⟨(blk_cell BK104.out 0).trans rfl, (blk_cell BK104.out 1).trans rfl, (blk_cell BK104.out 2).trans rfl, (blk_cell BK104.out 3).trans rfl, (blk_cell BK104.out 4).trans rfl⟩ (fun hHeld => ?_); refine with_tabW cell_May.tab5 cell_May.bits5 (fun HT_ HW_ => ?_)
          generalize wc.drew = w14 at BK104 HB hHeld ⊢
          refine pure_ (i := 0) (N := some 9) (v := ?_) (a' := ?_) #[true, false, false, false, false, false, false, false] rfl rfl (any_of HT_.out (by kernel_rfl)) (fun _ _ _ h => h) (Or.inl ⟨by rfl, ?_⟩) ?_ ?_
          rotate_left
          · intro w'
            go_simp
            with_reducible rfl
          rotate_left
          · simp only [Act.put, List.setIfInBounds_toArray, List.set_cons_zero, List.set_cons_succ, i64_w, i32_w]
            rfl
          refine pure_ (i := 3) (N := some 12) (v := ?_) (a' := ?_) #[true, false, false, true, false, false, false, false] rfl rfl (any_of HT_.out (by kernel_rfl)) (fun _ _ _ h => h) (Or.inl ⟨by rfl, ?_⟩) ?_ ?_
          rotate_left
          · intro w'
            go_simp
            with_reducible rfl
          rotate_left
          · simp only [Act.put, List.setIfInBounds_toArray, List.set_cons_zero, List.set_cons_succ, i64_w, i32_w]
            rfl
          refine take_ (i := 1) (N := some 10) (v := ?_) (a' := ?_) #[true, true, false, true, false, false, false, false] rfl rfl (take_ofW HT_.out HW_.out (by kernel_rfl)) (fun _ _ _ h => h) (Or.inl ⟨by rfl, ?_⟩) hHeld ?_ ?_
          rotate_left
          · rintro w' ⟨s0, s1, s2, s3, s4⟩
            go_simp
            with_reducible rfl
          rotate_left
          · simp only [Act.put, List.setIfInBounds_toArray, List.set_cons_zero, List.set_cons_succ, i64_w, i32_w]
            rfl
          refine take_ (i := 4) (N := some 13) (v := ?_) (a' := ?_) #[true, true, false, true, true, false, false, false] rfl rfl (take_ofW HT_.out HW_.out (by kernel_rfl)) (fun _ _ _ h => h) (Or.inl ⟨by rfl, ?_⟩) hHeld ?_ ?_
          rotate_left
          · rintro w' ⟨s0, s1, s2, s3, s4⟩
            go_simp
            with_reducible rfl
          rotate_left
          · simp only [Act.put, List.setIfInBounds_toArray, List.set_cons_zero, List.set_cons_succ, i64_w, i32_w]
            rfl
          refine pure_ (i := 5) (N := some 14) (v := ?_) (a' := ?_) #[true, true, false, true, true, true, false, false] rfl rfl (any_of HT_.out (by kernel_rfl)) (fun _ _ _ h => h) (Or.inl ⟨by rfl, ?_⟩) ?_ ?_
          rotate_left
          · intro w'
            go_simp
            with_reducible rfl
          rotate_left
          · simp only [Act.put, List.setIfInBounds_toArray, List.set_cons_zero, List.set_cons_succ, i64_w, i32_w]
            rfl
          refine one_ (i := 2) (N := some 11) #[true, true, true, true, true, true, false, false] rfl rfl (one_of HT_.out (by kernel_rfl)) (by decide) (fun K hK => ?_)
          refine goes_ Tryd.func15 (by kernel_rfl) rfl #[.int .i32 a0_0] (by rfl) rfl rfl (by (try simp only [List.map_toArray, List.map_cons, List.map_nil]); first | done | rfl | (simp only [List.length_drop, List.length_take]; rfl)) ?_
          with_reducible refine (cell_Width.calls a0_0 t105 _ ?side1 A7.out).mono ?_
          (case side1 => first | (with_reducible exact HT.out) | exact tabAt HT.out (by repeat (first | (with_reducible first | exact HB.out | apply below_alloc | apply pw_below_drewN | apply below_drew1 | refine below_set ?_ GE104.out) | exact HB.out)))
          rintro e w15 ⟨rfl, hb⟩
          refine ⟨_, rfl, ?_⟩
          have n0_ := Aside0.mk (blk_below (g := gb104) (o := .cells #[.int .i32 a0_0, .int .i64 a0_1, .int .i64 a0_2, .int .i64 a0_3, .int .i64 a0_4] 32 (0, 0)) (by (with_reducible repeat (first | refine blk_drewN ?_ _ | refine blk_drew ?_ | refine blk_alloc ?_ _)); exact BK104.out) hb)
          have n1_ := Aside0.mk (below_step (by repeat (first | (with_reducible first | exact HB.out | apply below_alloc | apply pw_below_drewN | apply below_drew1 | refine below_set ?_ GE104.out) | exact HB.out)) hb)
          clear BK104
          clear HB
          have BK104 := n0_
          have HB := n1_
          clear n0_ n1_
          (try clear hb)
          (try clear hb2)
          (try clear hk)
          (try clear hi)
          refine hK.out _ _ ⟨(blk_cell BK104.out 0).trans rfl, (blk_cell BK104.out 1).trans rfl, (blk_cell BK104.out 2).trans rfl, (blk_cell BK104.out 3).trans rfl, (blk_cell BK104.out 4).trans rfl⟩ (fun hHeld => ?_)
          clear hK K
          refine norm_ (a' := ?_) ?_ ?_
          rotate_left
          · show Act.put _ (some 11) _ = _
            simp only [Act.put, List.setIfInBounds_toArray, List.set_cons_zero, List.set_cons_succ, i64_w, i32_w]
            rfl
          refine pure_ (i := 6) (N := some 15) (v := ?_) (a' := ?_) #[true, true, true, true, true, true, true, false] rfl rfl (any_of HT_.out (by kernel_rfl)) (fun _ _ _ h => h) (Or.inl ⟨by rfl, ?_⟩) ?_ ?_
          rotate_left
          · intro w'
            go_simp
            with_reducible rfl
          rotate_left
          · simp only [Act.put, List.setIfInBounds_toArray, List.set_cons_zero, List.set_cons_succ, i64_w, i32_w]
            rfl
          refine pure_ (i := 7) (N := some 3) (v := ?_) (a' := ?_) #[true, true, true, true, true, true, true, true] rfl rfl (any_of HT_.out (by kernel_rfl)) (fun _ _ _ h => h) (Or.inl ⟨by rfl, ?_⟩) ?_ ?_
          rotate_left
          · intro w'
            go_simp
            with_reducible rfl
          rotate_left
          · simp only [Act.put, List.setIfInBounds_toArray, List.set_cons_zero, List.set_cons_succ, i64_w, i32_w]
            rfl
          refine done_ (done_of HT_.out (by kernel_rfl)) ?_
          try go_wp2
          go_ret
          exact ⟨by first | rfl | (simp [errW_none, errW_some] <;> rfl) | (simp [*, errW_none, errW_some] <;> rfl), by repeat (first | (with_reducible first | exact HB.out | apply below_alloc | apply pw_below_drewN | apply below_drew1 | refine below_set ?_ GE104.out) | exact HB.out)⟩
      · replace c6 := Bool.eq_false_iff.mpr c6
        subst c6
        have H1 : (if a0_4 = 2 then (if a0_0 = 0 then ((cell_MayAttr.f a0_1 a0_2 a0_3).bind fun t107 => (some t107)) else (some false)) else (if false = true then ((cell_MayAttr.f a0_1 a0_2 a0_3).bind fun t108 => (some t108)) else (some false))) = some r := by rw [if_neg (show ¬ (false = true) by decide)] at H; exact H
        clear H
        have H := H1
        clear H1
        by_cases c16 : a0_4 = 2
        · rw [if_pos c16] at H
          have c16b0 : (a0_4 == 2) = true := beq_iff_eq.mpr c16
          have c16b1 : (a0_4 != 2) = false := bne_eq_false_iff_eq.mpr c16
          clear c16
          by_cases c17 : a0_0 = 0
          · rw [if_pos c17] at H
            have c17b0 : (a0_0 == 0) = true := beq_iff_eq.mpr c17
            have c17b1 : (a0_0 != 0) = false := bne_eq_false_iff_eq.mpr c17
            clear c17
            replace H := Option.bind_eq_some_iff.mp H
            obtain ⟨t107, A180, H⟩ := H
            replace H : (some t107) = some r := H
            have A18 := Aside0.mk A180
            clear A180
            obtain rfl := Option.some.inj H
            have hcz19_0 : wc.cell? ⟨gb104, 0, none⟩ = some (.int .i32 a0_0) := (blk_cell BK104.out 0).trans rfl
            have hcz19_1 : wc.cell? ⟨gb104, 1, none⟩ = some (.int .i64 a0_1) := (blk_cell BK104.out 1).trans rfl
            have hcz19_2 : wc.cell? ⟨gb104, 2, none⟩ = some (.int .i64 a0_2) := (blk_cell BK104.out 2).trans rfl
            have hcz19_3 : wc.cell? ⟨gb104, 3, none⟩ = some (.int .i64 a0_3) := (blk_cell BK104.out 3).trans rfl
            have hcz19_4 : wc.cell? ⟨gb104, 4, none⟩ = some (.int .i64 a0_4) := (blk_cell BK104.out 4).trans rfl
            have hfz19_0 := blk_frozen BK104.out 0
            have hfz19_1 := blk_frozen BK104.out 1
            have hfz19_2 := blk_frozen BK104.out 2
            have hfz19_3 := blk_frozen BK104.out 3
            have hfz19_4 := blk_frozen BK104.out 4
            go_wp2_with (first | (go_at_call 11; (with_reducible refine (cell_MayAttr.calls a0_1 a0_2 a0_3 t107 _ A18.out).mono ?_); rintro e w20 ⟨rfl, hb⟩; have n0_ := Aside0.mk (blk_below (g := gb104) (o := .cells #[.int .i32 a0_0, .int .i64 a0_1, .int .i64 a0_2, .int .i64 a0_3, .int .i64 a0_4] 32 (0, 0)) (by (with_reducible repeat (first | refine blk_drewN ?_ _ | refine blk_drew ?_ | refine blk_alloc ?_ _)); exact BK104.out) hb); have n1_ := Aside0.mk (below_step (by repeat (first | (with_reducible first | exact HB.out | apply below_alloc | apply pw_below_drewN | apply below_drew1 | refine below_set ?_ GE104.out) | exact HB.out)) hb); clear BK104; clear HB; have BK104 := n0_; have HB := n1_; clear n0_ n1_; (try clear hb); (try clear hb2); (try clear hk); (try clear hi)))
            go_ret
            exact ⟨by first | rfl | (simp [errW_none, errW_some] <;> rfl) | (simp [*, errW_none, errW_some] <;> rfl), by repeat (first | (with_reducible first | exact HB.out | apply below_alloc | apply pw_below_drewN | apply below_drew1 | refine below_set ?_ GE104.out) | exact HB.out)⟩
          · rw [if_neg c17] at H
            have c17b0 : (a0_0 == 0) = false := beq_eq_false_iff_ne.mpr c17
            have c17b1 : (a0_0 != 0) = true := bne_iff_ne.mpr c17
            obtain rfl := Option.some.inj H
            have hcz21_0 : wc.cell? ⟨gb104, 0, none⟩ = some (.int .i32 a0_0) := (blk_cell BK104.out 0).trans rfl
            have hcz21_1 : wc.cell? ⟨gb104, 1, none⟩ = some (.int .i64 a0_1) := (blk_cell BK104.out 1).trans rfl
            have hcz21_2 : wc.cell? ⟨gb104, 2, none⟩ = some (.int .i64 a0_2) := (blk_cell BK104.out 2).trans rfl
            have hcz21_3 : wc.cell? ⟨gb104, 3, none⟩ = some (.int .i64 a0_3) := (blk_cell BK104.out 3).trans rfl
            have hcz21_4 : wc.cell? ⟨gb104, 4, none⟩ = some (.int .i64 a0_4) := (blk_cell BK104.out 4).trans rfl
            have hfz21_0 := blk_frozen BK104.out 0
            have hfz21_1 := blk_frozen BK104.out 1
            have hfz21_2 := blk_frozen BK104.out 2
            have hfz21_3 := blk_frozen BK104.out 3
            have hfz21_4 := blk_frozen BK104.out 4
            go_wp2
            go_ret
            exact ⟨by first | rfl | (simp [errW_none, errW_some] <;> rfl) | (simp [*, errW_none, errW_some] <;> rfl), by repeat (first | (with_reducible first | exact HB.out | apply below_alloc | apply pw_below_drewN | apply below_drew1 | refine below_set ?_ GE104.out) | exact HB.out)⟩
        · rw [if_neg c16] at H
          have c16b0 : (a0_4 == 2) = false := beq_eq_false_iff_ne.mpr c16
          have c16b1 : (a0_4 != 2) = true := bne_iff_ne.mpr c16
          have H1 : (some false) = some r := by first | (rw [if_neg (show ¬ (false = true) by decide)] at H; exact H) | exact (if_neg not_false).symm.trans H
          clear H
          have H := H1
          clear H1
          obtain rfl := Option.some.inj H
          go_wp2
          go_ret
          exact ⟨by first | rfl | (simp [errW_none, errW_some] <;> rfl) | (simp [*, errW_none, errW_some] <;> rfl), by repeat (first | (with_reducible first | exact HB.out | apply below_alloc | apply pw_below_drewN | apply below_drew1 | refine below_set ?_ GE104.out) | exact HB.out)⟩
def cell_Blank.f (a0_0 : Int) (a0_1 : Int) (a0_2 : Int) : Option (Int × Int × Int × Int × Int) := some (32, 0, 0, a0_2, 0)
set_option maxHeartbeats 8000000 in
set_option maxRecDepth 100000 in
theorem cell_Blank.calls (a0_0 : Int) (a0_1 : Int) (a0_2 : Int) (r1 : Int) (r2 : Int) (r3 : Int) (r4 : Int) (r5 : Int) (w : World) (h : cell_Blank.f a0_0 a0_1 a0_2 = some (r1, r2, r3, r4, r5)) :
    Calls Tryd.prog 14 #[.agg #[.int .i64 a0_0, .int .i64 a0_1, .int .i64 a0_2]] w fun e w' => e = .returned (.agg #[.int .i32 r1, .int .i64 r2, .int .i64 r3, .int .i64 r4, .int .i64 r5]) ∧ Below w.heap.size w w' := by
  have hu23 := Tryd.underlying23
  have hu32 := Tryd.underlying32
  have HB := Aside0.mk (Below.refl w.heap.size w)
  have H : (some (32, 0, 0, a0_2, 0)) = some (r1, r2, r3, r4, r5) := h
  clear h
  simp only [Option.some.injEq, Prod.mk.injEq] at H
  obtain ⟨rfl, rfl, rfl, rfl, rfl⟩ := H
  go_enter Tryd.func14, Tryd.ntmps14
  go_wp2_with (first | ((with_reducible refine gate_dst (N := 1) rfl ?_); refine box_event ?hg (N := 1) ?hd (cs := #[.int .i64 a0_0, .int .i64 a0_1, .int .i64 a0_2]) (t := 23) ?hr ?_; (case hd => rfl); (case hg => rfl); (case hr => first | (go_simp; done) | (go_simp; rfl)); intro gb109 hg w2 hbox hb; have n0_ := Aside0.mk (below_step (by repeat (first | (with_reducible first | exact HB.out | apply below_alloc | apply pw_below_drewN | apply below_drew1) | exact HB.out)) hb); have n1_ := Aside0.mk (hbox); have n2_ := Aside0.mk ((by rw [hg]; exact (below_size (by repeat (first | (with_reducible first | exact HB.out | apply below_alloc | apply pw_below_drewN | apply below_drew1) | exact HB.out))) : w.heap.size ≤ gb109)); have n3_ := Aside0.mk ((by rw [hg]; exact (below_size (by repeat (first | (with_reducible first | exact HB.out | apply below_alloc | apply pw_below_drewN | apply below_drew1) | exact HB.out))) : w.heap.size ≤ gb109)); clear HB; have HB := n0_; have BK109 := n1_; have GW109 := n2_; have GE109 := n3_; clear n0_ n1_ n2_ n3_; clear hb hbox hg) | ((with_reducible refine gate_dst (N := 2) rfl ?_); refine box_event ?hg (N := 2) ?hd (cs := #[.int .i32 0, .int .i64 0, .int .i64 0, .int .i64 0, .int .i64 0]) (t := 32) ?hr ?_; (case hd => rfl); (case hg => rfl); (case hr => first | (go_simp; done) | (go_simp; rfl)); intro gb110 hg w3 hbox hb; have n0_ := Aside0.mk (blk_below (g := gb109) (o := .cells #[.int .i64 a0_0, .int .i64 a0_1, .int .i64 a0_2] 23 (0, 0)) (by (with_reducible repeat (first | refine blk_drewN ?_ _ | refine blk_drew ?_ | refine blk_alloc ?_ _)); exact BK109.out) hb); have n1_ := Aside0.mk (below_step (by repeat (first | (with_reducible first | exact HB.out | apply below_alloc | apply pw_below_drewN | apply below_drew1 | refine below_set ?_ GE109.out) | exact HB.out)) hb); have n2_ := Aside0.mk (hbox); have n3_ := Aside0.mk ((by rw [hg]; exact (below_size (by repeat (first | (with_reducible first | exact HB.out | apply below_alloc | apply pw_below_drewN | apply below_drew1 | refine below_set ?_ GE109.out) | exact HB.out))) : w.heap.size ≤ gb110)); have n4_ := Aside0.mk ((by rw [hg]; exact (below_size (by repeat (first | (with_reducible first | exact HB.out | apply below_alloc | apply pw_below_drewN | apply below_drew1 | refine below_set ?_ GE109.out) | exact HB.out))) : w.heap.size ≤ gb110)); have n5_ := Aside0.mk ((by rw [hg]; exact Nat.ne_of_lt (blk_lt (g := gb109) (o := .cells #[.int .i64 a0_0, .int .i64 a0_1, .int .i64 a0_2] 23 (0, 0)) (by (with_reducible repeat (first | refine blk_drewN ?_ _ | refine blk_drew ?_ | refine blk_alloc ?_ _)); exact BK109.out)) : gb109 ≠ gb110)); have n6_ := Aside0.mk ((by rw [hg]; exact Nat.ne_of_gt (blk_lt (g := gb109) (o := .cells #[.int .i64 a0_0, .int .i64 a0_1, .int .i64 a0_2] 23 (0, 0)) (by (with_reducible repeat (first | refine blk_drewN ?_ _ | refine blk_drew ?_ | refine blk_alloc ?_ _)); exact BK109.out)) : gb110 ≠ gb109)); clear BK109; clear HB; have BK109 := n0_; have HB := n1_; have BK110 := n2_; have GW110 := n3_; have GE110 := n4_; have NB109_110 := n5_; have NB110_109 := n6_; clear n0_ n1_ n2_ n3_ n4_ n5_ n6_; clear hb hbox hg; have hnb4 := NB109_110.out; have hnc4 := NB110_109.out; have hcz5_0 : w3.cell? ⟨gb109, 0, none⟩ = some (.int .i64 a0_0) := (blk_cell BK109.out 0).trans rfl; have hcz5_1 : w3.cell? ⟨gb109, 1, none⟩ = some (.int .i64 a0_1) := (blk_cell BK109.out 1).trans rfl; have hcz5_2 : w3.cell? ⟨gb109, 2, none⟩ = some (.int .i64 a0_2) := (blk_cell BK109.out 2).trans rfl; have hfz5_0 := blk_frozen BK109.out 0; have hfz5_1 := blk_frozen BK109.out 1; have hfz5_2 := blk_frozen BK109.out 2; have hcz6_0 : w3.cell? ⟨gb110, 0, none⟩ = some (.int .i32 0) := (blk_cell BK110.out 0).trans rfl; have hcz6_1 : w3.cell? ⟨gb110, 1, none⟩ = some (.int .i64 0) := (blk_cell BK110.out 1).trans rfl; have hcz6_2 : w3.cell? ⟨gb110, 2, none⟩ = some (.int .i64 0) := (blk_cell BK110.out 2).trans rfl; have hcz6_3 : w3.cell? ⟨gb110, 3, none⟩ = some (.int .i64 0) := (blk_cell BK110.out 3).trans rfl; have hcz6_4 : w3.cell? ⟨gb110, 4, none⟩ = some (.int .i64 0) := (blk_cell BK110.out 4).trans rfl; have hfz6_0 := blk_frozen BK110.out 0; have hfz6_1 := blk_frozen BK110.out 1; have hfz6_2 := blk_frozen BK110.out 2; have hfz6_3 := blk_frozen BK110.out 3; have hfz6_4 := blk_frozen BK110.out 4))
  refine bodyPost_ret (results_cell_row rfl _ _ gb110 32 #[.int .i32 32, .int .i64 0, .int .i64 0, .int .i64 a0_2, .int .i64 0] (0, 0) _ rfl (by (with_reducible repeat (first | refine blk_drewN ?_ _ | refine blk_drew ?_ | refine blk_alloc ?_ _)); refine blk_put (cs := #[.int .i32 32, .int .i64 0, .int .i64 0, .int .i64 a0_2, .int .i64 0]) ?_ 4 _ rfl; (with_reducible repeat (first | refine blk_drewN ?_ _ | refine blk_drew ?_ | refine blk_alloc ?_ _)); refine blk_put (cs := #[.int .i32 32, .int .i64 0, .int .i64 0, .int .i64 0, .int .i64 0]) ?_ 3 _ rfl; (with_reducible repeat (first | refine blk_drewN ?_ _ | refine blk_drew ?_ | refine blk_alloc ?_ _)); refine blk_put (cs := #[.int .i32 32, .int .i64 0, .int .i64 0, .int .i64 0, .int .i64 0]) ?_ 2 _ rfl; (with_reducible repeat (first | refine blk_drewN ?_ _ | refine blk_drew ?_ | refine blk_alloc ?_ _)); refine blk_put (cs := #[.int .i32 32, .int .i64 0, .int .i64 0, .int .i64 0, .int .i64 0]) ?_ 1 _ rfl; (with_reducible repeat (first | refine blk_drewN ?_ _ | refine blk_drew ?_ | refine blk_alloc ?_ _)); refine blk_put (cs := #[.int .i32 0, .int .i64 0, .int .i64 0, .int .i64 0, .int .i64 0]) ?_ 0 _ rfl; (with_reducible repeat (first | refine blk_drewN ?_ _ | refine blk_drew ?_ | refine blk_alloc ?_ _)); exact BK110.out) Tryd.underlying32 rfl (by kernel_rfl)) rfl ?_
  exact ⟨by first | rfl | (simp [errW_none, errW_some] <;> rfl) | (simp [*, errW_none, errW_some] <;> rfl), by repeat (first | (with_reducible first | exact HB.out | apply below_alloc | apply pw_below_drewN | apply below_drew1 | refine below_set ?_ GE109.out | refine below_set ?_ GE110.out) | exact HB.out)⟩
def grid_fits.f (a0 : Int) (a1 : Int) : Option (Bool) := if a0 ≥ 1 then (if a0 ≤ 60 then (if a1 ≥ 1 then (some (decide (a1 ≤ 200))) else (some false)) else (some false)) else (some false)
set_option maxHeartbeats 8000000 in
set_option maxRecDepth 100000 in
theorem grid_fits.calls (a0 : Int) (a1 : Int) (r : Bool) (w : World) (h : grid_fits.f a0 a1 = some r) :
    Calls Tryd.prog 32 #[.int .i64 a0, .int .i64 a1] w fun e w' => e = .returned (.bool r) ∧ Drawn0 w w' := by
  have H : (if a0 ≥ 1 then (if a0 ≤ 60 then (if a1 ≥ 1 then (some (decide (a1 ≤ 200))) else (some false)) else (some false)) else (some false)) = some r := h
  clear h
  by_cases c3 : a0 ≥ 1
  · rw [if_pos c3] at H
    have c3b0 : decide (1 ≤ a0) = true := decide_eq_true c3
    clear c3
    by_cases c4 : a0 ≤ 60
    · rw [if_pos c4] at H
      have c4b0 : decide (a0 ≤ 60) = true := decide_eq_true c4
      clear c4
      by_cases c5 : a1 ≥ 1
      · rw [if_pos c5] at H
        have c5b0 : decide (1 ≤ a1) = true := decide_eq_true c5
        clear c5
        obtain rfl := Option.some.inj H
        go_enter Tryd.func32, Tryd.ntmps32
        go_wp2
        go_ret
        exact ⟨by first | rfl | (simp; done) | (simp [*]; done), by repeat (first | exact Drawn0.refl _ | apply Drawn0.step)⟩
      · rw [if_neg c5] at H
        have c5b0 : decide (1 ≤ a1) = false := decide_eq_false c5
        clear c5
        obtain rfl := Option.some.inj H
        go_enter Tryd.func32, Tryd.ntmps32
        go_wp2
        go_ret
        exact ⟨by first | rfl | (simp; done) | (simp [*]; done), by repeat (first | exact Drawn0.refl _ | apply Drawn0.step)⟩
    · rw [if_neg c4] at H
      have c4b0 : decide (a0 ≤ 60) = false := decide_eq_false c4
      clear c4
      obtain rfl := Option.some.inj H
      go_enter Tryd.func32, Tryd.ntmps32
      go_wp2
      go_ret
      exact ⟨by first | rfl | (simp; done) | (simp [*]; done), by repeat (first | exact Drawn0.refl _ | apply Drawn0.step)⟩
  · rw [if_neg c3] at H
    have c3b0 : decide (1 ≤ a0) = false := decide_eq_false c3
    clear c3
    obtain rfl := Option.some.inj H
    go_enter Tryd.func32, Tryd.ntmps32
    go_wp2
    go_ret
    exact ⟨by first | rfl | (simp; done) | (simp [*]; done), by repeat (first | exact Drawn0.refl _ | apply Drawn0.step)⟩
def grid_blank.f  : Option (Int × Int × Int × Int × Int) := (cell_Blank.f 0 0 0).bind fun bt112 => (some (bt112.1, bt112.2.1, bt112.2.2.1, bt112.2.2.2.1, bt112.2.2.2.2))
set_option maxHeartbeats 8000000 in
set_option maxRecDepth 100000 in
theorem grid_blank.calls  (r1 : Int) (r2 : Int) (r3 : Int) (r4 : Int) (r5 : Int) (w : World) (h : grid_blank.f  = some (r1, r2, r3, r4, r5)) :
    Calls Tryd.prog 34 #[] w fun e w' => e = .returned (.agg #[.int .i32 r1, .int .i64 r2, .int .i64 r3, .int .i64 r4, .int .i64 r5]) ∧ Below w.heap.size w w' := by
  have hu32 := Tryd.underlying32
  have hu23 := Tryd.underlying23
  have HB := Aside0.mk (Below.refl w.heap.size w)
  have H : ((cell_Blank.f 0 0 0).bind fun bt112 => (some (bt112.1, bt112.2.1, bt112.2.2.1, bt112.2.2.2.1, bt112.2.2.2.2))) = some (r1, r2, r3, r4, r5) := h
  clear h
  replace H := Option.bind_eq_some_iff.mp H
  obtain ⟨⟨t112, t113, t114, t115, t116⟩, A10, H⟩ := H
  replace H : (some (t112, t113, t114, t115, t116)) = some (r1, r2, r3, r4, r5) := H
  have A1 := Aside0.mk A10
  clear A10
  simp only [Option.some.injEq, Prod.mk.injEq] at H
  obtain ⟨rfl, rfl, rfl, rfl, rfl⟩ := H
  go_enter Tryd.func34, Tryd.ntmps34
  go_wp2_with (first | ((with_reducible refine gate_dst (N := 0) rfl ?_); refine box_event ?hg (N := 0) ?hd (cs := #[.int .i32 0, .int .i64 0, .int .i64 0, .int .i64 0, .int .i64 0]) (t := 32) ?hr ?_; (case hd => rfl); (case hg => rfl); (case hr => first | (go_simp; done) | (go_simp; rfl)); intro gb111 hg w2 hbox hb; have n0_ := Aside0.mk (below_step (by repeat (first | (with_reducible first | exact HB.out | apply below_alloc | apply pw_below_drewN | apply below_drew1) | exact HB.out)) hb); have n1_ := Aside0.mk (hbox); have n2_ := Aside0.mk ((by rw [hg]; exact (below_size (by repeat (first | (with_reducible first | exact HB.out | apply below_alloc | apply pw_below_drewN | apply below_drew1) | exact HB.out))) : w.heap.size ≤ gb111)); have n3_ := Aside0.mk ((by rw [hg]; exact (below_size (by repeat (first | (with_reducible first | exact HB.out | apply below_alloc | apply pw_below_drewN | apply below_drew1) | exact HB.out))) : w.heap.size ≤ gb111)); clear HB; have HB := n0_; have BK111 := n1_; have GW111 := n2_; have GE111 := n3_; clear n0_ n1_ n2_ n3_; clear hb hbox hg) | ((with_reducible refine gate_callee (f := 14) rfl ?_); refine goesL_ (some 2) rfl rfl Tryd.func14 (by kernel_rfl) rfl #[.agg #[.int .i64 0, .int .i64 0, .int .i64 0]] rfl (by (try simp only [List.map_toArray, List.map_cons, List.map_nil]); first | done | rfl | (simp only [List.length_drop, List.length_take]; rfl)) ?_; (with_reducible refine (cell_Blank.calls 0 0 0 t112 t113 t114 t115 t116 _ A1.out).mono ?_); rintro e w3 ⟨rfl, hb⟩; refine ⟨_, rfl, ?_⟩; have n0_ := Aside0.mk (blk_below (g := gb111) (o := .cells #[.int .i32 0, .int .i64 0, .int .i64 0, .int .i64 0, .int .i64 0] 32 (0, 0)) (by (with_reducible repeat (first | refine blk_drewN ?_ _ | refine blk_drew ?_ | refine blk_alloc ?_ _)); exact BK111.out) hb); have n1_ := Aside0.mk (below_step (by repeat (first | (with_reducible first | exact HB.out | apply below_alloc | apply pw_below_drewN | apply below_drew1 | refine below_set ?_ GE111.out) | exact HB.out)) hb); clear BK111; clear HB; have BK111 := n0_; have HB := n1_; clear n0_ n1_; (try clear hb); (try clear hb2); (try clear hk); (try clear hi); have hcz4_0 : w3.cell? ⟨gb111, 0, none⟩ = some (.int .i32 0) := (blk_cell BK111.out 0).trans rfl; have hcz4_1 : w3.cell? ⟨gb111, 1, none⟩ = some (.int .i64 0) := (blk_cell BK111.out 1).trans rfl; have hcz4_2 : w3.cell? ⟨gb111, 2, none⟩ = some (.int .i64 0) := (blk_cell BK111.out 2).trans rfl; have hcz4_3 : w3.cell? ⟨gb111, 3, none⟩ = some (.int .i64 0) := (blk_cell BK111.out 3).trans rfl; have hcz4_4 : w3.cell? ⟨gb111, 4, none⟩ = some (.int .i64 0) := (blk_cell BK111.out 4).trans rfl; have hfz4_0 := blk_frozen BK111.out 0; have hfz4_1 := blk_frozen BK111.out 1; have hfz4_2 := blk_frozen BK111.out 2; have hfz4_3 := blk_frozen BK111.out 3; have hfz4_4 := blk_frozen BK111.out 4))
  refine bodyPost_ret (results_cell_row rfl _ _ gb111 32 #[.int .i32 t112, .int .i64 t113, .int .i64 t114, .int .i64 t115, .int .i64 t116] (0, 0) _ rfl (by (with_reducible repeat (first | refine blk_drewN ?_ _ | refine blk_drew ?_ | refine blk_alloc ?_ _)); refine blk_put (cs := #[.int .i32 t112, .int .i64 t113, .int .i64 t114, .int .i64 t115, .int .i64 0]) ?_ 4 _ rfl; (with_reducible repeat (first | refine blk_drewN ?_ _ | refine blk_drew ?_ | refine blk_alloc ?_ _)); refine blk_put (cs := #[.int .i32 t112, .int .i64 t113, .int .i64 t114, .int .i64 0, .int .i64 0]) ?_ 3 _ rfl; (with_reducible repeat (first | refine blk_drewN ?_ _ | refine blk_drew ?_ | refine blk_alloc ?_ _)); refine blk_put (cs := #[.int .i32 t112, .int .i64 t113, .int .i64 0, .int .i64 0, .int .i64 0]) ?_ 2 _ rfl; (with_reducible repeat (first | refine blk_drewN ?_ _ | refine blk_drew ?_ | refine blk_alloc ?_ _)); refine blk_put (cs := #[.int .i32 t112, .int .i64 0, .int .i64 0, .int .i64 0, .int .i64 0]) ?_ 1 _ rfl; (with_reducible repeat (first | refine blk_drewN ?_ _ | refine blk_drew ?_ | refine blk_alloc ?_ _)); refine blk_put (cs := #[.int .i32 0, .int .i64 0, .int .i64 0, .int .i64 0, .int .i64 0]) ?_ 0 _ rfl; (with_reducible repeat (first | refine blk_drewN ?_ _ | refine blk_drew ?_ | refine blk_alloc ?_ _)); exact BK111.out) Tryd.underlying32 rfl (by kernel_rfl)) rfl ?_
  exact ⟨by first | rfl | (simp [errW_none, errW_some] <;> rfl) | (simp [*, errW_none, errW_some] <;> rfl), by repeat (first | (with_reducible first | exact HB.out | apply below_alloc | apply pw_below_drewN | apply below_drew1 | refine below_set ?_ GE111.out) | exact HB.out)⟩
def bits_Mul64.f (a0 : Int) (a1 : Int) : Option (Int × Int) := some (IntKind.u64.wrap ((IntKind.u64.wrap ((IntKind.u64.wrap ((a0 / 4294967296) * (a1 / 4294967296))) + ((IntKind.u64.wrap ((IntKind.u64.wrap ((a0 / 4294967296) * (Go.bits .and .u64 a1 4294967295))) + ((IntKind.u64.wrap ((Go.bits .and .u64 a0 4294967295) * (Go.bits .and .u64 a1 4294967295))) / 4294967296))) / 4294967296))) + ((IntKind.u64.wrap ((Go.bits .and .u64 (IntKind.u64.wrap ((IntKind.u64.wrap ((a0 / 4294967296) * (Go.bits .and .u64 a1 4294967295))) + ((IntKind.u64.wrap ((Go.bits .and .u64 a0 4294967295) * (Go.bits .and .u64 a1 4294967295))) / 4294967296))) 4294967295) + (IntKind.u64.wrap ((Go.bits .and .u64 a0 4294967295) * (a1 / 4294967296))))) / 4294967296)), IntKind.u64.wrap (a0 * a1))
end Go.Proofs.YtcfndcjbgalnpaaDoor.PB
namespace Go.Proofs.YtcfndcjbgalnpaaDoor.Hand
open Go.RowKit Go.Proofs.YtcfndcjbgalnpaaDoorW.PrintWords Go.Proofs.YtcfndcjbgalnpaaDoorW.PrintLast
structure GridAt (w : World) (base g b r c : Nat) (L : List C5) : Prop where
  blk : ∃ cap, w.heap[g]? = some (.cells #[.int .i64 r, .int .i64 c, .slice (some ⟨b, 0, none⟩) L.length cap] 66 (0, 0)) ∧ L.length ≤ cap ∧ cap ≤ maxLen
  row : RowAt w b L
  len : L.length = r * c
  r1 : 1 ≤ r
  r2 : r ≤ 60
  c1 : 1 ≤ c
  c2 : c ≤ 200
  gb : g ≠ b
  bg : base ≤ g
  bb : base ≤ b
theorem GridAt.small {w : World} {base g b r c : Nat} {L : List C5} (h : GridAt w base g b r c L) : L.length ≤ 12000 := by
  have := Nat.mul_le_mul h.r2 h.c2
  rw [h.len]
  exact this
theorem GridAt.grown {w w' : World} {base g b r c : Nat} {L : List C5} {row : Option Nat} (h : GridAt w base g b r c L) (hg : w.grownBy w' row) (h1 : some g ≠ row) (h2 : some b ≠ row) : GridAt w' base g b r c L := by
  obtain ⟨cap, e, e1, e2⟩ := h.blk
  exact { h with blk := ⟨cap, (hg.block g (blk_lt e) h1).trans e, e1, e2⟩, row := h.row.grown hg h2 }
theorem GridAt.below {w w' : World} {base g b r c : Nat} {L : List C5} (h : GridAt w base g b r c L) (hb : Below w.heap.size w w') : GridAt w' base g b r c L :=
  h.grown (row := none) (grown_of_none hb) (by simp) (by simp)
theorem GridAt.wrote {w w' : World} {base g b r c : Nat} {L L' : List C5} (h : GridAt w base g b r c L) (hg : w.grownBy w' (some b)) (hR : RowAt w' b L') (hl : L'.length = L.length) : GridAt w' base g b r c L' := by
  obtain ⟨cap, e, e1, e2⟩ := h.blk
  exact { h with blk := ⟨cap, by rw [hl]; exact (hg.block g (blk_lt e) (fun e => h.gb (Option.some.inj e))).trans e, by rw [hl]; exact e1, e2⟩, row := hR, len := hl.trans h.len }
theorem GridAt.cells {w : World} {base g b r c : Nat} {L : List C5} (h : GridAt w base g b r c L) : ∃ cap, L.length ≤ cap ∧ cap ≤ maxLen ∧ w.cell? ⟨g, 0, none⟩ = some (.int .i64 r) ∧ w.cell? ⟨g, 1, none⟩ = some (.int .i64 c) ∧ w.cell? ⟨g, 2, none⟩ = some (.slice (some ⟨b, 0, none⟩) L.length cap) := by
  obtain ⟨cap, e, e1, e2⟩ := h.blk
  exact ⟨cap, e1, e2, (blk_cell e 0).trans rfl, (blk_cell e 1).trans rfl, (blk_cell e 2).trans rfl⟩
theorem rows_calls {w : World} {base g b r c : Nat} {L : List C5} (h : GridAt w base g b r c L) : Calls Tryd.prog 18 #[.pointer (some ⟨g, 0, none⟩)] w (fun e w' => e = .returned (.int .i64 r) ∧ w' = w) := by
  obtain ⟨cap, _, _, h0, h1, h2⟩ := h.cells
  go_enter Tryd.func18, Tryd.ntmps18
  go_wp2
  go_ret
  exact ⟨rfl, rfl⟩
theorem cols_calls {w : World} {base g b r c : Nat} {L : List C5} (h : GridAt w base g b r c L) : Calls Tryd.prog 19 #[.pointer (some ⟨g, 0, none⟩)] w (fun e w' => e = .returned (.int .i64 c) ∧ w' = w) := by
  obtain ⟨cap, _, _, h0, h1, h2⟩ := h.cells
  go_enter Tryd.func19, Tryd.ntmps19
  go_wp2
  go_ret
  exact ⟨rfl, rfl⟩
def isB (r c : Nat) (row col : Int) : Bool := decide (0 ≤ row ∧ row < r ∧ 0 ≤ col ∧ col < c)
theorem is_calls {w : World} {base g b r c : Nat} {L : List C5} (h : GridAt w base g b r c L) (row col : Int) :
    Calls Tryd.prog 36 #[.pointer (some ⟨g, 0, none⟩), .int .i64 row, .int .i64 col] w (fun e w' => e = .returned (.bool (isB r c row col)) ∧ w' = w) := by
  obtain ⟨cap, _, _, h0, h1, h2⟩ := h.cells
  unfold isB
  by_cases p1 : 0 ≤ row
  case neg =>
    rw [show decide (0 ≤ row ∧ row < r ∧ 0 ≤ col ∧ col < c) = false from decide_eq_false (fun q => p1 q.1)]
    go_enter Tryd.func36, Tryd.ntmps36
    go_wp2
    go_ret
    exact ⟨rfl, rfl⟩
  by_cases p2 : row < r
  case neg =>
    rw [show decide (0 ≤ row ∧ row < r ∧ 0 ≤ col ∧ col < c) = false from decide_eq_false (fun q => p2 q.2.1)]
    go_enter Tryd.func36, Tryd.ntmps36
    go_wp2
    go_ret
    exact ⟨rfl, rfl⟩
  by_cases p3 : 0 ≤ col
  case neg =>
    rw [show decide (0 ≤ row ∧ row < r ∧ 0 ≤ col ∧ col < c) = false from decide_eq_false (fun q => p3 q.2.2.1)]
    go_enter Tryd.func36, Tryd.ntmps36
    go_wp2
    go_ret
    exact ⟨rfl, rfl⟩
  by_cases p4 : col < c
  case neg =>
    rw [show decide (0 ≤ row ∧ row < r ∧ 0 ≤ col ∧ col < c) = false from decide_eq_false (fun q => p4 q.2.2.2)]
    go_enter Tryd.func36, Tryd.ntmps36
    go_wp2
    go_ret
    exact ⟨by simp [p4], rfl⟩
  rw [show decide (0 ≤ row ∧ row < r ∧ 0 ≤ col ∧ col < c) = true from decide_eq_true ⟨p1, p2, p3, p4⟩]
  go_enter Tryd.func36, Tryd.ntmps36
  go_wp2
  go_ret
  exact ⟨by simp [p4], rfl⟩
theorem place_lt {n r c j : Nat} (hn : n < r) (hj : j < c) : n * c + j < r * c := by
  have h1 : (n + 1) * c ≤ r * c := Nat.mul_le_mul_right c hn
  rw [Nat.succ_mul] at h1
  omega
theorem place_le {n r c : Nat} (hn : n < r) : n * c + c ≤ r * c := by
  have h1 : (n + 1) * c ≤ r * c := Nat.mul_le_mul_right c hn
  rwa [Nat.succ_mul] at h1
theorem info_cellE : ∃ i, Tryd.prog.info? 32 = some i ∧ i.size = 5 := by
  obtain ⟨i, h1, h2⟩ := Option.map_eq_some_iff.1 info_cell
  exact ⟨i, h1, h2⟩
theorem cut_row {b n cap lo hi : Nat} (h1 : lo ≤ hi) (h2 : hi ≤ n) (h3 : n ≤ cap) (h4 : lo < cap) (o : Nat) (W : World) :
    (Instr.slice 49 (.slice (some ⟨b, 5 * o, none⟩) n cap) (some (.int .i64 (lo : Int))) (some (.int .i64 (hi : Int))) none).run Tryd.prog W = .ok (.slice (some ⟨b, 5 * (o + lo), none⟩) (hi - lo) (cap - lo)) W := by
  obtain ⟨i, hi', hsz⟩ := info_cellE
  rw [cut_mid 49 32 .i64 .i64 Tryd.underlying49 hi' 5 hsz (some ⟨b, 5 * o, none⟩) n cap lo hi (by omega) (by omega) (by omega) h3 W]
  rw [if_neg (by simp; omega), Option.map_some, add_at, Int.toNat_natCast, Int.toNat_natCast, show 5 * o + lo * 5 = 5 * (o + lo) by omega]
theorem cut_row0 {b n cap lo hi : Nat} (h1 : lo ≤ hi) (h2 : hi ≤ n) (h3 : n ≤ cap) (h4 : lo < cap) (W : World) :
    (Instr.slice 49 (.slice (some ⟨b, 0, none⟩) n cap) (some (.int .i64 (lo : Int))) (some (.int .i64 (hi : Int))) none).run Tryd.prog W = .ok (.slice (some ⟨b, 5 * lo, none⟩) (hi - lo) (cap - lo)) W := by
  have := cut_row (b := b) h1 h2 h3 h4 0 W
  rwa [Nat.zero_add] at this
theorem wrap_mul {a b p : Nat} (h : a * b = p) (hp : p ≤ 100000) : IntKind.i64.wrap ((a : Int) * (b : Int)) = (p : Int) := by
  rw [← Int.natCast_mul, h, i64_w]
  unfold wrap64
  omega
theorem row_calls {w : World} {b g r c len cap : Nat} (h1 : w.cell? ⟨g, 1, none⟩ = some (.int .i64 (c : Int))) (h2 : w.cell? ⟨g, 2, none⟩ = some (.slice (some ⟨b, 0, none⟩) len cap)) (n : Nat) (hn : n < r) (hlen : len = r * c) (hk : len ≤ cap) (hs : len ≤ 12000) (hr : r ≤ 60) (hc1 : 1 ≤ c) (hc : c ≤ 200) :
    Calls Tryd.prog 37 #[.pointer (some ⟨g, 0, none⟩), .int .i64 n] w (fun e w' => e = .returned (.slice (some ⟨b, 5 * (n * c), none⟩) c (cap - n * c)) ∧ ∃ m, w' = w.drewN m) := by
  have hle := place_le (c := c) hn
  obtain ⟨p, hp⟩ : ∃ p, n * c = p := ⟨_, rfl⟩
  have hw1 := wrap_mul hp (by omega)
  have hw2 : IntKind.i64.wrap (((n : Int) + 1) * (c : Int)) = ((p + c : Nat) : Int) := wrap_mul (a := n + 1) (by rw [Nat.succ_mul, hp]) (by omega)
  have hcut := fun W => cut_row0 (b := b) (n := len) (cap := cap) (lo := p) (hi := p + c) (by omega) (by omega) hk (by omega) W
  rw [hp, show p + c - p = c by omega] at *
  obtain ⟨q, hq⟩ : ∃ q, p + c = q := ⟨_, rfl⟩
  rw [hq] at hw2 hcut
  clear hlen hle hp
  go_enter Tryd.func37, Tryd.ntmps37
  go_wp2
  go_quiet (fail)
  go_wp2
  go_ret
  exact ⟨rfl, nq, rfl⟩
end Go.Proofs.YtcfndcjbgalnpaaDoor.Hand
namespace Go.Proofs.YtcfndcjbgalnpaaDoor.Hand
open Go.RowKit Go.Proofs.YtcfndcjbgalnpaaDoorW.PrintWords Go.Proofs.YtcfndcjbgalnpaaDoorW.PrintLast
def atC (r c : Nat) (L : List C5) (row col : Int) : C5 := if isB r c row col = true then L.getD (row.toNat * c + col.toNat) z5 else z5
set_option maxHeartbeats 2000000 in
theorem at_calls {w : World} {base g b r c : Nat} {L : List C5} (h : GridAt w base g b r c L) (row col : Int) :
    Calls Tryd.prog 13 #[.pointer (some ⟨g, 0, none⟩), .int .i64 row, .int .i64 col] w (fun e w' => e = .returned (atC r c L row col).agg ∧ Below w.heap.size w w') := by
  have HG := Aside0.mk h
  clear h
  cases hi : isB r c row col with
  | false =>
    have ha : atC r c L row col = z5 := by unfold atC; rw [hi]; rfl
    rw [ha]
    clear ha
    go_enter Tryd.func13, Tryd.ntmps13
    go_wp2_with ((with_reducible refine gate_dst (N := 6) rfl ?_); refine box_event ?hg (N := 6) ?hd (cs := #[.int .i32 0, .int .i64 0, .int .i64 0, .int .i64 0, .int .i64 0]) (t := 32) ?hr ?_; (case hd => rfl); (case hg => rfl); (case hr => first | (go_simp; done) | (go_simp; rfl)); intro gb hg w3 hbox hb; have HX := Aside0.mk hbox; have HB3 := Aside0.mk hb; have HGB := Aside0.mk (Nat.le_of_eq hg.symm); clear hbox hb hg)
    refine (is_calls (HG.out.below HB3.out) row col).mono ?_
    rintro e w1 ⟨rfl, rfl⟩
    rw [hi]
    go_wp2_with ((with_reducible refine gate_store (t := 32) (p := 6) (v := .tmp 12) rfl ?_); refine store_box HX.out rfl z5 32 (.tmp 6) (.tmp 12) rfl rfl rfl info_cell rfl rfl ?_; intro w4 HX4 HG4; have HX4 := Aside0.mk HX4; have HG4 := Aside0.mk HG4; clear HX)
    refine bodyPost_ret (results_single rfl (.cell gb 32 _ (0, 0) _ rfl HX4.out Tryd.underlying32 rfl (by kernel_rfl) .nil)) rfl ?_
    exact ⟨rfl, below_new HB3.out HG4.out HGB.out⟩
  | true =>
    obtain ⟨p1, p2, p3, p4⟩ : 0 ≤ row ∧ row < r ∧ 0 ≤ col ∧ col < c := by simpa [isB] using hi
    obtain ⟨n, rfl⟩ := Int.eq_ofNat_of_zero_le p1
    obtain ⟨j, rfl⟩ := Int.eq_ofNat_of_zero_le p3
    have hn : n < r := by omega
    have hj : j < c := by omega
    have hplace := place_lt hn hj
    rw [← HG.out.len] at hplace
    obtain ⟨x, hx⟩ : ∃ x, L[n * c + j]? = some x := ⟨_, List.getElem?_eq_getElem hplace⟩
    have ha : atC r c L (n : Int) (j : Int) = x := by
      unfold atC
      rw [if_pos hi, Int.toNat_natCast, Int.toNat_natCast, List.getD_eq_getElem?_getD, hx]
      rfl
    rw [ha]
    clear ha p1 p2 p3 p4 hplace
    have HJ := Aside0.mk hj
    go_enter Tryd.func13, Tryd.ntmps13
    go_wp2_with ((with_reducible refine gate_dst (N := 6) rfl ?_); refine box_event ?hg (N := 6) ?hd (cs := #[.int .i32 0, .int .i64 0, .int .i64 0, .int .i64 0, .int .i64 0]) (t := 32) ?hr ?_; (case hd => rfl); (case hg => rfl); (case hr => first | (go_simp; done) | (go_simp; rfl)); intro gb hg w3 hbox hb; have HX := Aside0.mk hbox; have HB3 := Aside0.mk hb; have HGB := Aside0.mk (Nat.le_of_eq hg.symm); clear hbox hb hg)
    refine (is_calls (HG.out.below HB3.out) n j).mono ?_
    rintro e w1 ⟨rfl, rfl⟩
    rw [hi]
    have HG3 := Aside0.mk (HG.out.below HB3.out)
    obtain ⟨cap, k1, k2, c0, c1, c2⟩ := HG3.out.cells
    go_wp2_with fail
    refine (row_calls c1 c2 n hn HG3.out.len k1 HG3.out.small HG3.out.r2 HG3.out.c1 HG3.out.c2).mono ?_
    rintro e w2 ⟨rfl, m, rfl⟩
    have HR := Aside0.mk (HG3.out.row.below (below_drawn _ m))
    have hxx : ∀ k, k < 5 → (w1.drewN m).cell? ⟨b, 5 * (n * c) + j * 5 + k, none⟩ = x.vs[k]? := fun k hk => by
      rw [show 5 * (n * c) + j * 5 + k = 5 * (n * c + j) + k by omega]
      exact HR.out.cell hx k hk
    have z0 : (w1.drewN m).cell? ⟨b, 5 * (n * c) + j * 5, none⟩ = some (.int .i32 x.r) := hxx 0 (by omega)
    have z1 : (w1.drewN m).cell? ⟨b, 5 * (n * c) + j * 5 + 1, none⟩ = some (.int .i64 x.f) := hxx 1 (by omega)
    have z2 : (w1.drewN m).cell? ⟨b, 5 * (n * c) + j * 5 + 2, none⟩ = some (.int .i64 x.g) := hxx 2 (by omega)
    have z3 : (w1.drewN m).cell? ⟨b, 5 * (n * c) + j * 5 + 3, none⟩ = some (.int .i64 x.b) := hxx 3 (by omega)
    have z4 : (w1.drewN m).cell? ⟨b, 5 * (n * c) + j * 5 + 4, none⟩ = some (.int .i64 x.w) := hxx 4 (by omega)
    have HX3 := Aside0.mk (blk_below HX.out (below_drawn _ m))
    have HB4 := Aside0.mk (below_step HB3.out (below_drawn _ m))
    clear hxx HG3 HX HB3 k1 k2 c0 c1 c2
    generalize w1.drewN m = w5 at *
    generalize n * c = nc at *
    go_wp2_with ((with_reducible refine gate_store (t := 32) (p := 6) (v := .tmp 18) rfl ?_); refine store_box HX3.out rfl x 32 (.tmp 6) (.tmp 18) rfl rfl rfl info_cell rfl rfl ?_; intro w4 HX4 HG4; have HX4 := Aside0.mk HX4; have HG4 := Aside0.mk HG4; clear HX3)
    refine bodyPost_ret (results_single rfl (.cell gb 32 _ (0, 0) _ rfl HX4.out Tryd.underlying32 rfl (by kernel_rfl) .nil)) rfl ?_
    exact ⟨rfl, below_new HB4.out HG4.out HGB.out⟩
end Go.Proofs.YtcfndcjbgalnpaaDoor.Hand
namespace Go.Proofs.YtcfndcjbgalnpaaDoor.Hand
open Go.RowKit Go.Proofs.YtcfndcjbgalnpaaDoorW.PrintWords Go.Proofs.YtcfndcjbgalnpaaDoorW.PrintLast
theorem part_set {α : Type} (L : List α) (o j m : Nat) (x : α) : ((L.set (o + j) x).drop o).take m = ((L.drop o).take m).set j x := by
  rw [List.drop_set, if_neg (by omega), Nat.add_sub_cancel_left, List.take_set]
theorem splice_set {α : Type} (L M : List α) (o j : Nat) (x : α) (hj : j < M.length) : splice (L.set (o + j) x) o M = splice L o M := by
  unfold splice
  rw [List.take_set_of_le (by omega), List.drop_set_of_lt (by omega)]
theorem part_length {α : Type} (L : List α) (o m : Nat) (h : o + m ≤ L.length) : ((L.drop o).take m).length = m := by
  rw [List.length_take, List.length_drop]
  omega
def blankC (b : Int) : C5 := ⟨32, 0, 0, b, 0⟩
def laid (l : List C5) (j : Nat) (x : C5) : List C5 := if x.w = 1 then (if j + 1 = l.length then (l.set j x).set j (blankC x.b) else (l.set j x).set (j + 1) ⟨0, x.f, x.g, x.b, 2⟩) else l.set j x
def putL (c : Nat) (L : List C5) (n j : Nat) (x : C5) : List C5 := splice L (n * c) (mendL (laid ((L.drop (n * c)).take c) j x))
def putOk (r c : Nat) (row col : Int) (x : C5) (may : Bool) : Bool := isB r c row col && may && (x.w != 2)
def putG (r c : Nat) (L : List C5) (row col : Int) (x : C5) (may : Bool) : List C5 := if putOk r c row col x may = true then putL c L row.toNat col.toNat x else L
theorem laid_length (l : List C5) (j : Nat) (x : C5) : (laid l j x).length = l.length := by
  unfold laid
  split
  · split <;> simp
  · simp
theorem putL_length {r c : Nat} {L : List C5} (hl : L.length = r * c) {n : Nat} (hn : n < r) (j : Nat) (x : C5) : (putL c L n j x).length = L.length := by
  have h1 := place_le (c := c) hn
  have h2 := part_length L (n * c) c (by omega)
  unfold putL
  rw [splice_length _ _ _ (by rw [mendL_length, laid_length, h2]; omega)]
theorem putG_length {r c : Nat} {L : List C5} (hl : L.length = r * c) (row col : Int) (x : C5) (may : Bool) : (putG r c L row col x may).length = L.length := by
  unfold putG
  split
  · rename_i h
    have h1 : 0 ≤ row ∧ row < r ∧ 0 ≤ col ∧ col < c := by
      simp only [putOk, isB, Bool.and_eq_true, decide_eq_true_eq] at h
      exact h.1.1
    exact putL_length hl (by omega) _ _
  · rfl
theorem put_no {w : World} {base g b r c : Nat} {L : List C5} (h : GridAt w base g b r c L) (hT : TabW w) (row col : Int) (x : C5) (k : Nat) (may : Bool) (hmay : PB.cell_May.f k x.r x.f x.g x.b x.w = some may) (hno : putOk r c row col x may = false) :
    Calls Tryd.prog 12 #[.pointer (some ⟨g, 0, none⟩), .int .i64 row, .int .i64 col, x.agg] w (fun e w' => e = .returned (.bool false) ∧ Below w.heap.size w w') := by
  have HG := Aside0.mk h
  have HT := Aside0.mk hT
  have HM := Aside0.mk hmay
  have HN := Aside0.mk hno
  clear h hT hmay hno
  go_enter Tryd.func12, Tryd.ntmps12
  go_wp2_with ((with_reducible refine gate_dst (N := 7) rfl ?_); refine box_event ?hg (N := 7) ?hd (cs := #[.int .i32 x.r, .int .i64 x.f, .int .i64 x.g, .int .i64 x.b, .int .i64 x.w]) (t := 32) ?hr ?_; (case hd => rfl); (case hg => rfl); (case hr => first | (go_simp; done) | (go_simp; rfl)); intro gb hg w3 hbox hb; have HX := Aside0.mk hbox; have HB3 := Aside0.mk hb; have HGB := Aside0.mk (Nat.le_of_eq hg.symm); clear hbox hb hg)
  refine (is_calls (HG.out.below HB3.out) row col).mono ?_
  rintro e w1 ⟨rfl, rfl⟩
  cases hi : isB r c row col with
  | false =>
    go_wp2_with fail
    go_ret
    exact ⟨rfl, HB3.out⟩
  | true =>
    have z0 : w1.cell? ⟨gb, 0, none⟩ = some (.int .i32 x.r) := (blk_cell HX.out 0).trans rfl
    have z1 : w1.cell? ⟨gb, 1, none⟩ = some (.int .i64 x.f) := (blk_cell HX.out 1).trans rfl
    have z2 : w1.cell? ⟨gb, 2, none⟩ = some (.int .i64 x.g) := (blk_cell HX.out 2).trans rfl
    have z3 : w1.cell? ⟨gb, 3, none⟩ = some (.int .i64 x.b) := (blk_cell HX.out 3).trans rfl
    have z4 : w1.cell? ⟨gb, 4, none⟩ = some (.int .i64 x.w) := (blk_cell HX.out 4).trans rfl
    go_wp2_with fail
    refine (PB.cell_May.calls k x.r x.f x.g x.b x.w may w1 (tabAt HT.out HB3.out) HM.out).mono ?_
    rintro e w2 ⟨rfl, hb2⟩
    have HB5 := Aside0.mk (below_step HB3.out hb2)
    have HX2 := Aside0.mk (blk_below HX.out hb2)
    clear hb2 z0 z1 z2 z3 z4
    cases hm : may with
    | false =>
      go_wp2_with fail
      go_ret
      exact ⟨rfl, HB5.out⟩
    | true =>
      have hw : x.w = 2 := by
        have := HN.out
        rw [putOk, hi, hm] at this
        simpa using this
      have z4 : w2.cell? ⟨gb, 4, none⟩ = some (.int .i64 x.w) := (blk_cell HX2.out 4).trans rfl
      go_wp2_with fail
      go_ret
      exact ⟨rfl, HB5.out⟩
end Go.Proofs.YtcfndcjbgalnpaaDoor.Hand
namespace Go.Proofs.YtcfndcjbgalnpaaDoor.Hand
open Go.RowKit Go.Proofs.YtcfndcjbgalnpaaDoorW.PrintWords Go.Proofs.YtcfndcjbgalnpaaDoorW.PrintLast
theorem putL_end {L L' : List C5} {o m : Nat} {x : C5} {j : Nat} (h1 : ((L'.drop o).take m) = laid ((L.drop o).take m) j x) (h2 : ∀ M : List C5, M.length = m → splice L' o M = splice L o M) (hl : ((L.drop o).take m).length = m) :
    splice L' o (mendL ((L'.drop o).take m)) = splice L o (mendL (laid ((L.drop o).take m) j x)) := by
  rw [h1]
  exact h2 _ (by rw [mendL_length, laid_length, hl])
set_option maxHeartbeats 4000000 in
theorem put_yes {w : World} {base g b r c : Nat} {L : List C5} (h : GridAt w base g b r c L) (hT : TabW w) (n j : Nat) (hn : n < r) (hj : j < c) (x : C5) (k : Nat) (hmay : PB.cell_May.f k x.r x.f x.g x.b x.w = some true) (hw2 : (x.w == 2) = false) :
    Calls Tryd.prog 12 #[.pointer (some ⟨g, 0, none⟩), .int .i64 n, .int .i64 j, x.agg] w (fun e w' => e = .returned (.bool true) ∧ RowAt w' b (putL c L n j x) ∧ w.grownBy w' (some b)) := by
  have HG := Aside0.mk h
  have HT := Aside0.mk hT
  have HM := Aside0.mk hmay
  have hi : isB r c n j = true := by
    simp only [isB, decide_eq_true_eq]
    omega
  have hle := place_le (c := c) hn
  rw [← h.len] at hle
  have hsm := h.small
  have hpl := part_length L (n * c) c hle
  have hc1 := h.c1
  clear h hT hmay
  go_enter Tryd.func12, Tryd.ntmps12
  go_wp2_with ((with_reducible refine gate_dst (N := 7) rfl ?_); refine box_event ?hg (N := 7) ?hd (cs := #[.int .i32 x.r, .int .i64 x.f, .int .i64 x.g, .int .i64 x.b, .int .i64 x.w]) (t := 32) ?hr ?_; (case hd => rfl); (case hg => rfl); (case hr => first | (go_simp; done) | (go_simp; rfl)); intro gb hg w3 hbox hb; have HX := Aside0.mk hbox; have HB3 := Aside0.mk hb; have HGB := Aside0.mk (Nat.le_of_eq hg.symm); clear hbox hb hg)
  refine (is_calls (HG.out.below HB3.out) n j).mono ?_
  rintro e w1 ⟨rfl, rfl⟩
  rw [hi]
  have z0 : w1.cell? ⟨gb, 0, none⟩ = some (.int .i32 x.r) := (blk_cell HX.out 0).trans rfl
  have z1 : w1.cell? ⟨gb, 1, none⟩ = some (.int .i64 x.f) := (blk_cell HX.out 1).trans rfl
  have z2 : w1.cell? ⟨gb, 2, none⟩ = some (.int .i64 x.g) := (blk_cell HX.out 2).trans rfl
  have z3 : w1.cell? ⟨gb, 3, none⟩ = some (.int .i64 x.b) := (blk_cell HX.out 3).trans rfl
  have z4 : w1.cell? ⟨gb, 4, none⟩ = some (.int .i64 x.w) := (blk_cell HX.out 4).trans rfl
  go_wp2_with fail
  refine (PB.cell_May.calls k x.r x.f x.g x.b x.w true w1 (tabAt HT.out HB3.out) HM.out).mono ?_
  rintro e w2 ⟨rfl, hb2⟩
  have HB5 := Aside0.mk (below_step HB3.out hb2)
  have HX2 := Aside0.mk (blk_below HX.out hb2)
  clear hb2 z0 z1 z2 z3 z4 HX HB3
  have z4 : w2.cell? ⟨gb, 4, none⟩ = some (.int .i64 x.w) := (blk_cell HX2.out 4).trans rfl
  have HG3 := Aside0.mk (HG.out.below HB5.out)
  obtain ⟨cap, k1, k2, c0, c1, c2⟩ := HG3.out.cells
  go_wp2_with fail
  refine (row_calls c1 c2 n hn HG3.out.len k1 HG3.out.small HG3.out.r2 HG3.out.c1 HG3.out.c2).mono ?_
  rintro e w4 ⟨rfl, m, rfl⟩
  have HB6 := Aside0.mk (below_step HB5.out (below_drawn _ m))
  have HX4 := Aside0.mk (blk_below HX2.out (below_drawn _ m))
  have HR4 := Aside0.mk (HG3.out.row.below (below_drawn _ m))
  clear z4 HG3 HB5 HX2 c0 c1 c2
  have hcap : c ≤ cap - n * c := by omega
  generalize w2.drewN m = w5 at *
  generalize cap - n * c = cap2 at *
  have HPL : Aside0 (putL c L n j x = splice L (n * c) (mendL (laid ((L.drop (n * c)).take c) j x))) := ⟨rfl⟩
  generalize n * c = o at *
  have z0 : w5.cell? ⟨gb, 0, none⟩ = some (.int .i32 x.r) := (blk_cell HX4.out 0).trans rfl
  have z1 : w5.cell? ⟨gb, 1, none⟩ = some (.int .i64 x.f) := (blk_cell HX4.out 1).trans rfl
  have z2 : w5.cell? ⟨gb, 2, none⟩ = some (.int .i64 x.g) := (blk_cell HX4.out 2).trans rfl
  have z3 : w5.cell? ⟨gb, 3, none⟩ = some (.int .i64 x.b) := (blk_cell HX4.out 3).trans rfl
  have z4 : w5.cell? ⟨gb, 4, none⟩ = some (.int .i64 x.w) := (blk_cell HX4.out 4).trans rfl
  have HLT := Aside0.mk (show o + j < L.length by omega)
  go_upto_region 5 with ((with_reducible refine gate_store (t := 32) (p := 31) (v := .tmp 30) rfl ?_); refine store_cell (o' := 5 * o + j * 5) HR4.out (o + j) HLT.out x 32 (.tmp 31) (.tmp 30) rfl rfl rfl info_cell rfl (by omega) rfl ?_; intro w6 HR6 HG6; have HR6 := Aside0.mk HR6; have HG6 := Aside0.mk HG6)
  have hgb := HGB.out
  have hbw := HG.out.row.lt
  have hgw := (HG.out.blk.elim fun _ q => blk_lt q.1)
  have HX6 := Aside0.mk ((HG6.out.block gb (blk_lt HX4.out) (fun e => by injection e with e; omega)).trans HX4.out)
  have hc6 : w6.cell? ⟨g, 1, none⟩ = some (.int .i64 (c : Int)) := by
    obtain ⟨cap', e, _⟩ := (HG.out.below HB6.out).blk
    exact (blk_cell ((HG6.out.block g (blk_lt e) (fun e => HG.out.gb (Option.some.inj e))).trans e) 1).trans rfl
  have HG7 := Aside0.mk (grown_trans (grown_of_none (row := some b) HB6.out) HG6.out)
  have HL6 : (L.set (o + j) x).length = L.length := List.length_set
  clear z0 z1 z2 z3 z4 HX4 HR4 HB6 hgb hbw hgw HG6
  have z1 : w6.cell? ⟨gb, 1, none⟩ = some (.int .i64 x.f) := (blk_cell HX6.out 1).trans rfl
  have z2 : w6.cell? ⟨gb, 2, none⟩ = some (.int .i64 x.g) := (blk_cell HX6.out 2).trans rfl
  have z3 : w6.cell? ⟨gb, 3, none⟩ = some (.int .i64 x.b) := (blk_cell HX6.out 3).trans rfl
  have z4 : w6.cell? ⟨gb, 4, none⟩ = some (.int .i64 x.w) := (blk_cell HX6.out 4).trans rfl
  have fin : ∀ (L' : List C5) (W W' : World), ((L'.drop o).take c) = laid ((L.drop o).take c) j x → (∀ M : List C5, M.length = c → splice L' o M = splice L o M) → w.grownBy W (some b) →
      RowAt W' b (splice L' o (mendL ((L'.drop o).take c))) → W.grownBy W' (some b) → RowAt W' b (putL c L n j x) ∧ w.grownBy W' (some b) := by
    intro L' W W' h1 h2 h3 h4 h5
    rw [putL_end h1 h2 hpl, ← HPL.out] at h4
    exact ⟨h4, grown_trans h3 h5⟩
  have FIN := Aside0.mk fin
  clear fin
  cases hw : x.w == 1 with
  | false =>
    go_wp2_with fail
    refine (mend_calls HR6.out o c hc1 (by rw [HL6]; omega) (by rw [HL6]; omega) hcap).mono ?_
    rintro e w10 ⟨rfl, hR10, hg10⟩
    go_wp2
    go_ret
    refine ⟨rfl, FIN.out (L.set (o + j) x) w6 w10 ?_ (fun M hM => splice_set L M o j x (by omega)) HG7.out hR10 hg10⟩
    rw [part_set, laid, if_neg (by simpa using hw)]
  | true =>
    have hx1 : x.w = 1 := by simpa using hw
    by_cases hjc : j + 1 = c
    · have e1 : ((j : Int) + 1 == (c : Int)) = true := beq_iff_eq.2 (by omega)
      go_wp2_with fail
      refine (PB.cell_Blank.calls x.f x.g x.b 32 0 0 x.b 0 w6 rfl).mono ?_
      rintro e w8 ⟨rfl, hb8⟩
      have HR8 := Aside0.mk (HR6.out.below hb8)
      have HG8 := Aside0.mk (grown_below HG7.out hb8)
      have HL8 : Aside0 (o + j < (L.set (o + j) x).length) := ⟨by rw [HL6]; exact HLT.out⟩
      clear hb8 HR6 HG7
      go_wp2_with ((with_reducible refine gate_store (t := 32) (p := 47) (v := .tmp 46) rfl ?_); refine store_cell (o' := 5 * o + j * 5) HR8.out (o + j) HL8.out (blankC x.b) 32 (.tmp 47) (.tmp 46) rfl rfl rfl info_cell rfl (by omega) rfl ?_; intro w9 HR9 HG9; have HR9 := Aside0.mk HR9; have HG9 := Aside0.mk HG9)
      have HL9 : ((L.set (o + j) x).set (o + j) (blankC x.b)).length = L.length := by rw [List.length_set, List.length_set]
      refine (mend_calls HR9.out o c hc1 (by rw [HL9]; omega) (by rw [HL9]; omega) hcap).mono ?_
      rintro e w10 ⟨rfl, hR10, hg10⟩
      go_wp2
      go_ret
      refine ⟨rfl, FIN.out ((L.set (o + j) x).set (o + j) (blankC x.b)) w9 w10 ?_ (fun M hM => ?_) (grown_trans HG8.out HG9.out) hR10 hg10⟩
      · rw [part_set, part_set, laid, if_pos hx1, if_pos (by rw [hpl]; exact hjc)]
      · rw [splice_set _ M o j _ (by omega), splice_set L M o j x (by omega)]
    · have e1 : ((j : Int) + 1 == (c : Int)) = false := beq_eq_false_iff_ne.2 (by omega)
      have hj1 : j + 1 < c := by omega
      have HL8 : Aside0 (o + (j + 1) < (L.set (o + j) x).length) := ⟨by rw [HL6]; omega⟩
      go_wp2_with ((with_reducible refine gate_store (t := 32) (p := 54) (v := .tmp 53) rfl ?_); refine store_cell (o' := 5 * o + (j + 1) * 5) HR6.out (o + (j + 1)) HL8.out ⟨0, x.f, x.g, x.b, 2⟩ 32 (.tmp 54) (.tmp 53) rfl rfl rfl info_cell rfl (by omega) rfl ?_; intro w9 HR9 HG9; have HR9 := Aside0.mk HR9; have HG9 := Aside0.mk HG9)
      have HL9 : ((L.set (o + j) x).set (o + (j + 1)) ⟨0, x.f, x.g, x.b, 2⟩).length = L.length := by rw [List.length_set, List.length_set]
      refine (mend_calls HR9.out o c hc1 (by rw [HL9]; omega) (by rw [HL9]; omega) hcap).mono ?_
      rintro e w10 ⟨rfl, hR10, hg10⟩
      go_wp2
      go_ret
      refine ⟨rfl, FIN.out ((L.set (o + j) x).set (o + (j + 1)) ⟨0, x.f, x.g, x.b, 2⟩) w9 w10 ?_ (fun M hM => ?_) (grown_trans HG7.out HG9.out) hR10 hg10⟩
      · rw [part_set, part_set, laid, if_pos hx1, if_neg (by rw [hpl]; exact hjc)]
      · rw [splice_set _ M o (j + 1) _ (by omega), splice_set L M o j x (by omega)]
end Go.Proofs.YtcfndcjbgalnpaaDoor.Hand
namespace Go.Proofs.YtcfndcjbgalnpaaDoor.PC
open Go.RowKit Go.Proofs.YtcfndcjbgalnpaaDoorW.PrintWords Go.Proofs.YtcfndcjbgalnpaaDoorW.PrintLast Go.Proofs.YtcfndcjbgalnpaaDoorW.PrintMore
attribute [local go_sem] max2_int min2_int max_two min_two max_three min_three max_four min_four
set_option linter.unusedVariables false
set_option linter.unusedSimpArgs false
def errW : Option Int → Value
  | none => .nilIface
  | some c => .iface 0 (.int .i64 c)
theorem errW_none : errW none = .nilIface := rfl
theorem errW_some (c : Int) : errW (some c) = .iface 0 (.int .i64 c) := rfl
end Go.Proofs.YtcfndcjbgalnpaaDoor.PC
namespace Go.Proofs.YtcfndcjbgalnpaaDoor.PC
open Go.RowKit Go.Proofs.YtcfndcjbgalnpaaDoorW.PrintWords Go.Proofs.YtcfndcjbgalnpaaDoorW.PrintLast Go.Proofs.YtcfndcjbgalnpaaDoorW.PrintMore
attribute [local go_sem] max2_int min2_int max_two min_two max_three min_three max_four min_four
set_option linter.unusedVariables false
set_option linter.unusedSimpArgs false
def bits_Mul32.f (a0 : Int) (a1 : Int) : Option (Int × Int) := some (((IntKind.u64.wrap ((IntKind.u64.wrap (a0)) * (IntKind.u64.wrap (a1)))) / 4294967296) % 4294967296, (IntKind.u64.wrap ((IntKind.u64.wrap (a0)) * (IntKind.u64.wrap (a1)))) % 4294967296)
def bits_Mul64.f (a0 : Int) (a1 : Int) : Option (Int × Int) := some (IntKind.u64.wrap ((IntKind.u64.wrap ((IntKind.u64.wrap ((a0 / 4294967296) * (a1 / 4294967296))) + ((IntKind.u64.wrap ((IntKind.u64.wrap ((a0 / 4294967296) * (Go.bits .and .u64 a1 4294967295))) + ((IntKind.u64.wrap ((Go.bits .and .u64 a0 4294967295) * (Go.bits .and .u64 a1 4294967295))) / 4294967296))) / 4294967296))) + ((IntKind.u64.wrap ((Go.bits .and .u64 (IntKind.u64.wrap ((IntKind.u64.wrap ((a0 / 4294967296) * (Go.bits .and .u64 a1 4294967295))) + ((IntKind.u64.wrap ((Go.bits .and .u64 a0 4294967295) * (Go.bits .and .u64 a1 4294967295))) / 4294967296))) 4294967295) + (IntKind.u64.wrap ((Go.bits .and .u64 a0 4294967295) * (a1 / 4294967296))))) / 4294967296)), IntKind.u64.wrap (a0 * a1))
set_option maxHeartbeats 8000000 in
set_option maxRecDepth 100000 in
theorem bits_Mul64.calls (a0 : Int) (a1 : Int) (r1 : Int) (r2 : Int) (w : World) (h : bits_Mul64.f a0 a1 = some (r1, r2)) :
    Calls Tryd.prog 57 #[.int .u64 a0, .int .u64 a1] w fun e w' => e = .returned (.tuple #[.int .u64 r1, .int .u64 r2]) ∧ Drawn0 w w' := by
  have H : (some (IntKind.u64.wrap ((IntKind.u64.wrap ((IntKind.u64.wrap ((a0 / 4294967296) * (a1 / 4294967296))) + ((IntKind.u64.wrap ((IntKind.u64.wrap ((a0 / 4294967296) * (Go.bits .and .u64 a1 4294967295))) + ((IntKind.u64.wrap ((Go.bits .and .u64 a0 4294967295) * (Go.bits .and .u64 a1 4294967295))) / 4294967296))) / 4294967296))) + ((IntKind.u64.wrap ((Go.bits .and .u64 (IntKind.u64.wrap ((IntKind.u64.wrap ((a0 / 4294967296) * (Go.bits .and .u64 a1 4294967295))) + ((IntKind.u64.wrap ((Go.bits .and .u64 a0 4294967295) * (Go.bits .and .u64 a1 4294967295))) / 4294967296))) 4294967295) + (IntKind.u64.wrap ((Go.bits .and .u64 a0 4294967295) * (a1 / 4294967296))))) / 4294967296)), IntKind.u64.wrap (a0 * a1))) = some (r1, r2) := h
  clear h
  simp only [Option.some.injEq, Prod.mk.injEq] at H
  obtain ⟨rfl, rfl⟩ := H
  go_enter Tryd.func57, Tryd.ntmps57
  go_wp2
  go_ret2
  exact ⟨by first | rfl | (simp; done) | (simp [*]; done), by repeat (first | exact Drawn0.refl _ | apply Drawn0.step)⟩
def bits_Mul.f (a0 : Int) (a1 : Int) : Option (Int × Int) := (bits_Mul64.f a0 a1).bind fun bt101 => (some (bt101.1, bt101.2))
set_option maxHeartbeats 8000000 in
set_option maxRecDepth 100000 in
theorem bits_Mul.calls (a0 : Int) (a1 : Int) (r1 : Int) (r2 : Int) (w : World) (h : bits_Mul.f a0 a1 = some (r1, r2)) :
    Calls Tryd.prog 52 #[.int .u64 a0, .int .u64 a1] w fun e w' => e = .returned (.tuple #[.int .u64 r1, .int .u64 r2]) ∧ Drawn0 w w' := by
  have H : ((bits_Mul64.f a0 a1).bind fun bt101 => (some (bt101.1, bt101.2))) = some (r1, r2) := h
  clear h
  replace H := Option.bind_eq_some_iff.mp H
  obtain ⟨⟨t101, t102⟩, A30, H⟩ := H
  replace H : (some (t101, t102)) = some (r1, r2) := H
  have A3 := Aside0.mk A30
  clear A30
  simp only [Option.some.injEq, Prod.mk.injEq] at H
  obtain ⟨rfl, rfl⟩ := H
  go_enter Tryd.func52, Tryd.ntmps52
  go_wp2_with (first | ((with_reducible refine gate_callee (f := 57) rfl ?_); refine goesL_ (some 25) rfl rfl Tryd.func57 (by kernel_rfl) rfl #[.int .u64 a0, .int .u64 a1] rfl (by (try simp only [List.map_toArray, List.map_cons, List.map_nil]); first | done | rfl | (simp only [List.length_drop, List.length_take]; rfl)) ?_; (with_reducible refine (bits_Mul64.calls a0 a1 t101 t102 _ A3.out).mono ?_); rintro e w' ⟨rfl, ⟨nd, rfl⟩⟩; refine ⟨_, rfl, ?_⟩))
  go_ret2
  exact ⟨by first | rfl | (simp; done) | (simp [*]; done), by repeat (first | exact Drawn0.refl _ | apply Drawn0.step)⟩
end Go.Proofs.YtcfndcjbgalnpaaDoor.PC
namespace Go.Proofs.YtcfndcjbgalnpaaDoor.Hand
open Go.RowKit Go.Proofs.YtcfndcjbgalnpaaDoorW.PrintWords Go.Proofs.YtcfndcjbgalnpaaDoorW.PrintLast
theorem mask32 (x : Int) (h0 : 0 ≤ x) (h1 : x < 4294967296) : Go.bits .and .u64 x 4294967295 = x := by
  rw [u64_and x 4294967295 h0 (by omega) (by omega) (by omega), show ((4294967295 : Int).toNat) = 2 ^ 32 - 1 from rfl, Nat.and_two_pow_sub_one_eq_mod]
  omega
theorem mul_one (n : Nat) (h : n ≤ 12000) : PC.bits_Mul.f 1 n = some (0, (n : Int)) := by
  have e0 : (1 : Int) / 4294967296 = 0 := by decide
  have e1 : (n : Int) / 4294967296 = 0 := by omega
  have e2 : IntKind.u64.wrap (n : Int) = n := by first | (simp [IntKind.wrap, IntKind.bits, IntKind.signed]; omega) | go_num
  have e3 : IntKind.u64.wrap 0 = 0 := by decide
  simp only [PC.bits_Mul.f, PC.bits_Mul64.f, Option.bind_some, mask32 1 (by decide) (by decide), mask32 n (by omega) (by omega), e0, e1, e2, e3, Int.zero_mul, Int.mul_zero, Int.one_mul, Int.add_zero, Int.zero_add, Int.zero_ediv]
  simp only [mask32 0 (by decide) (by decide), e3, Int.add_zero, Int.zero_ediv, Int.zero_mul]
section
variable {ops : Array Oper} {rest : List Oper} {o : Oper} {a : Act} {Q : Exit → Act → World → Prop} {W : World}
theorem run_copy_row5 {b b2 : Nat} {L L2 : List C5} (hR : RowAt W b L) (hR2 : RowAt W b2 L2) (o1 m cap o2 m2 cap2 : Nat) (h1 : o1 + m ≤ L.length) (h2 : o2 + m2 ≤ L2.length) (ty : TypeId) :
    (Builtin.copy_ #[49, 49] ty #[.slice (some ⟨b, 5 * o1, none⟩) m cap, .slice (some ⟨b2, 5 * o2, none⟩) m2 cap2]).run Tryd.prog W = .ok (goInt ((min m2 m : Nat) : Int)) (W.setCells b (5 * o1) (flat ((L2.drop o2).take (min m2 m)))) ∧
    RowAt (W.setCells b (5 * o1) (flat ((L2.drop o2).take (min m2 m)))) b (splice L o1 ((L2.drop o2).take (min m2 m))) := by
  have hlen : ((L2.drop o2).take (min m2 m)).length = min m2 m := by rw [List.length_take, List.length_drop]; omega
  refine ⟨run_copy_n 49 49 ty 32 5 b (5 * o1) m cap ⟨b2, 5 * o2, none⟩ m2 cap2 _ Tryd.underlying49 info_cell ?_ ?_ ?_ ?_ (flat_one _), hR.put o1 _ (by rw [hlen]; omega)⟩
  · rw [flat_length, hlen, Nat.mul_comm]
  · intro j v hj
    have hjl : j < 5 * min m2 m := by
      have := (List.getElem?_eq_some_iff.1 hj).1
      rwa [flat_length, hlen] at this
    rw [add_at]
    obtain ⟨ex, e2⟩ := hR2.out
    rw [cell_of_row W b2 _ _ 32 (0, 0) e2, List.getElem?_toArray, List.getElem?_append_left (by rw [flat_length]; omega)]
    rw [← flat_take, ← flat_drop, List.getElem?_take_of_lt hjl, List.getElem?_drop] at hj
    exact hj
  · intro j hj
    rw [flat_length, hlen] at hj
    obtain ⟨ex, e1⟩ := hR.out
    rw [cell_of_row W b _ _ 32 (0, 0) e1, List.getElem?_toArray, List.getElem?_eq_getElem (by rw [List.length_append, flat_length]; omega)]
    rfl
  · intro j _
    exact hR.frozen _
theorem copy_row {b b2 : Nat} {L L2 : List C5} (hR : RowAt W b L) (hR2 : RowAt W b2 L2) (o1 m cap o2 m2 cap2 : Nat) (h1 : o1 + m ≤ L.length) (h2 : o2 + m2 ≤ L2.length) (d s : Operand) (hgd : o.guard = none)
    (ho : o.op = .call { callee := .builtin .copy, args := #[d, s], argTypes := #[49, 49] }) {p1 p2 : Nat} (hp1 : p1 = 5 * o1) (hp2 : p2 = 5 * o2) (hd : a.eval d = .slice (some ⟨b, p1, none⟩) m cap) (hs : a.eval s = .slice (some ⟨b2, p2, none⟩) m2 cap2)
    (h : ∀ w', RowAt w' b (splice L o1 ((L2.drop o2).take (min m2 m))) → W.grownBy w' (some b) → wpList Tryd.prog ops Q rest (a.put o.dst (goInt ((min m2 m : Nat) : Int))) w') : wpList Tryd.prog ops Q (o :: rest) a W := by
  subst hp1 hp2
  obtain ⟨hrun, hR'⟩ := run_copy_row5 hR hR2 o1 m cap o2 m2 cap2 h1 h2 o.type
  refine wpList_plain hgd fun K hK => ?_
  unfold Oper.wp
  simp [execOp, ho, resolve, invoke, builtin, hd, hs, hrun, Result.andThen]
  exact hK _ _ (h _ hR' (grown_setCells _ _ _ _))
theorem step_copy_row {K : Act → World → Prop} {E : Prop} {cnd : Prop} [Decidable cnd] (hcnd : cnd) {b b2 : Nat} {L L2 : List C5} (hR : RowAt W b L) (hR2 : RowAt W b2 L2) (o1 m cap o2 m2 cap2 : Nat) (h1 : o1 + m ≤ L.length) (h2 : o2 + m2 ≤ L2.length) (d s : Operand) (hgd : o.guard = none)
    (ho : o.op = .call { callee := .builtin .copy, args := #[d, s], argTypes := #[49, 49] }) {p1 p2 : Nat} (hp1 : p1 = 5 * o1) (hp2 : p2 = 5 * o2) (hd : a.eval d = .slice (some ⟨b, p1, none⟩) m cap) (hs : a.eval s = .slice (some ⟨b2, p2, none⟩) m2 cap2)
    (h : ∀ w', RowAt w' b (splice L o1 ((L2.drop o2).take (min m2 m))) → W.grownBy w' (some b) → K (a.put o.dst (goInt ((min m2 m : Nat) : Int))) w') :
    if cnd then Oper.wp Tryd.prog o a W K Q else E := by
  subst hp1 hp2
  obtain ⟨hrun, hR'⟩ := run_copy_row5 hR hR2 o1 m cap o2 m2 cap2 h1 h2 o.type
  rw [if_pos hcnd]
  unfold Oper.wp
  simp [execOp, ho, resolve, invoke, builtin, hd, hs, hrun, Result.andThen]
  exact h _ hR' (grown_setCells _ _ _ _)
end
end Go.Proofs.YtcfndcjbgalnpaaDoor.Hand
namespace Go.Proofs.YtcfndcjbgalnpaaDoor.Hand
open Go.RowKit Go.Proofs.YtcfndcjbgalnpaaDoorW.PrintWords Go.Proofs.YtcfndcjbgalnpaaDoorW.PrintLast
def fillTo (n i : Nat) (x : C5) : List C5 := List.replicate i x ++ List.replicate (n - i) z5
theorem fillTo_length {n i : Nat} (x : C5) (h : i ≤ n) : (fillTo n i x).length = n := by simp [fillTo]; omega
theorem fillTo_more {n i k : Nat} (x : C5) (h : i ≤ n) (hk : k = min i (n - i)) : splice (fillTo n i x) i (((fillTo n i x).drop 0).take k) = fillTo n (i + k) x := by
  have e1 : ((fillTo n i x).drop 0).take k = List.replicate k x := by
    rw [List.drop_zero, fillTo, List.take_append_of_le_length (by rw [List.length_replicate]; omega), List.take_replicate, show min k i = k by omega]
  rw [e1]
  unfold splice fillTo
  rw [List.take_append_of_le_length (by rw [List.length_replicate]; omega), List.take_replicate, Nat.min_self, List.length_replicate, List.drop_append, List.length_replicate, show i + k - i = k by omega,
    List.drop_of_length_le (by rw [List.length_replicate]; omega), List.nil_append, List.drop_replicate, ← List.append_assoc, List.replicate_append_replicate, show n - i - k = n - (i + k) by omega]
theorem cut_from0 {b n cap i : Nat} (h1 : i < n) (h2 : n ≤ cap) (W : World) : (Instr.slice 49 (.slice (some ⟨b, 0, none⟩) n cap) (some (.int .i64 (i : Int))) none none).run Tryd.prog W = .ok (.slice (some ⟨b, 5 * i, none⟩) (n - i) (cap - i)) W := by
  obtain ⟨f, hi', hsz⟩ := info_cellE
  rw [cut_from 49 32 .i64 Tryd.underlying49 hi' 5 hsz (some ⟨b, 0, none⟩) n cap i (by omega) (by omega) W]
  rw [if_neg (by simp; omega), Option.map_some, add_at, Int.toNat_natCast, Nat.zero_add, Nat.mul_comm]
theorem cut_to0 {b n cap i : Nat} (o : Nat) (h1 : i ≤ n) (h2 : n ≤ cap) (W : World) : (Instr.slice 49 (.slice (some ⟨b, o, none⟩) n cap) none (some (.int .i64 (i : Int))) none).run Tryd.prog W = .ok (.slice (some ⟨b, o, none⟩) i cap) W := by
  obtain ⟨f, hi', hsz⟩ := info_cellE
  rw [cut_to 49 32 .i64 Tryd.underlying49 hi' (some ⟨b, o, none⟩) n cap i (by omega) (by omega) h2 W, Int.toNat_natCast]
set_option maxHeartbeats 600000 in
theorem repeat_calls {w : World} {b1 cap1 : Nat} {x : C5} (hR : RowAt w b1 [x]) (n : Nat) (h1 : 1 ≤ n) (h2 : n ≤ 12000) :
    Calls Tryd.prog 33 #[.slice (some ⟨b1, 0, none⟩) 1 cap1, .int .i64 n] w (fun e w' => ∃ b cap, e = .returned (.slice (some ⟨b, 0, none⟩) n cap) ∧ n ≤ cap ∧ cap ≤ maxLen ∧ w.heap.size ≤ b ∧ RowAt w' b (List.replicate n x) ∧ Below w.heap.size w w') := by
  have HR := Aside0.mk hR
  clear hR
  have hn0 : ¬ ((n : Int) < 0) := by omega
  have hwn : IntKind.u64.wrap (n : Int) = n := by first | (simp [IntKind.wrap, IntKind.bits, IntKind.signed]; omega) | go_num
  go_enter Tryd.func33, Tryd.ntmps33
  go_wp2_with fail
  refine (PC.bits_Mul.calls 1 n 0 n w (mul_one n h2)).mono ?_
  rintro e w1 ⟨rfl, ⟨m, rfl⟩⟩
  have HB1 := Aside0.mk (below_drawn w m)
  have HR1 := Aside0.mk (HR.out.below HB1.out)
  generalize w.drewN m = w1 at *
  go_upto_region 7 with ((with_reducible refine gate_dst (N := 30) rfl ?_); refine Kd.R_make kC (w0 := w) w.heap.size 32 rfl (N := 30) rfl 49 (.tmp 29) (.tmp 29) rfl n rfl rfl Tryd.underlying49 (C5.agg z5) 40 info_cell3 rfl (by decide) (by decide) z5 (ok := fun _ => True) (okp := fun _ => True) (kC_M.2 rfl) (fun _ h => h) trivial (by omega) (by omega) HB1.out HB1.out.size ?_; intro v3 w3 ho hb hg hnew; have HO3 := Aside0.mk ho; have HB3 := Aside0.mk hb; have HG3 := Aside0.mk hg; clear ho hb hg hnew)
  have hrl : (List.replicate (n : Int).toNat z5).length = n := by rw [List.length_replicate, Int.toNat_natCast]
  obtain ⟨b, cap, rfl, e2, _, e4, e5, e6⟩ := rowAt_of_R HO3.out (by omega)
  rw [hrl] at e5 ⊢
  rw [Int.toNat_natCast] at e4
  have HR3 := Aside0.mk (HR1.out.grown HG3.out (by simp))
  have HM3 := Aside0.mk e4
  clear HO3 HG3 HR1 HB1 e4 hrl
  have HBB := Aside0.mk e2
  go_wp2_with ((with_reducible refine gate_builtin (b := .copy) (xs := #[.tmp 31, .tmp 32]) rfl ?_); refine copy_row HM3.out HR3.out 0 n cap 0 1 cap1 (by rw [List.length_replicate]; omega) (by simp) (.tmp 31) (.tmp 32) rfl rfl (p1 := 0) (p2 := 0) rfl rfl rfl rfl ?_; intro w5 hR5 hG5; have HR5 := Aside0.mk hR5; have HG5 := Aside0.mk hG5; clear hR5 hG5)
  have hfst : splice (List.replicate n z5) 0 (([x].drop 0).take (min 1 n)) = fillTo n 1 x := by
    rw [show min 1 n = 1 by omega]
    simp [splice, fillTo]
  rw [hfst] at HR5
  have HB5 := Aside0.mk (below_new HB3.out HG5.out e2)
  clear hfst HG5 HB3 HM3 HR3 HR
  go_loopw [8] (fun v8 wr => ∃ i : Nat, 1 ≤ i ∧ i ≤ n ∧ v8 = .int .i64 i ∧ Aside0 (RowAt wr b (fillTo n i x)) ∧ Aside0 (Below w.heap.size w wr)) (fun v8 _ => n - (intOf v8).toNat)
  case atStart => exact ⟨1, Nat.le_refl _, h1, rfl, HR5, HB5⟩
  case round =>
    obtain ⟨i, hi1, hi2, rfl, HR6, HB6⟩ := hrel
    clear HR5 HB5
    by_cases hlt : i < n
    · have hc1 := fun W => cut_from0 (b := b) hlt e5 W
      have hc2 := fun W => cut_to0 (b := b) 0 (Nat.le_of_lt hlt) e5 W
      obtain ⟨k, hk⟩ : ∃ k, min i (n - i) = k := ⟨_, rfl⟩
      have hki : k ≤ n - i := by omega
      have hk0 : 0 < k := by omega
      have hlen := fillTo_length (n := n) x hi2
      have HK := Aside0.mk hk.symm
      go_wp2
      go_region_law ((try simp only [Act.put, List.getElem_toArray, List.getElem_cons_zero, List.getElem_cons_succ, List.setIfInBounds_toArray, List.set_cons_zero, List.set_cons_succ]); refine step_copy_row ?hcn (HR6.out.below (below_drew (Below.refl _ _))) (HR6.out.below (below_drew (Below.refl _ _))) i (n - i) (cap - i) 0 i cap (by omega) (by omega) (.tmp 41) (.tmp 44) ?hgd ?ho (p1 := 5 * i) (p2 := 0) rfl rfl ?hd ?hs ?_; (case hcn => rfl); (case hgd => rfl); (case ho => rfl); (case hd => rfl); (case hs => rfl); intro w7 hR7 hG7; rw [hk] at hR7 ⊢)
      have HR8 : RowAt w7 b (fillTo n (i + k) x) := by rw [← fillTo_more x hi2 HK.out]; exact hR7
      have HB8 := below_new (below_step HB6.out (below_drew (Below.refl _ _))) hG7 e2
      have HR8 := Aside0.mk HR8
      have HB8 := Aside0.mk HB8
      clear hR7 hG7 hc1 hc2
      (try simp only [Act.put, List.getElem_toArray, List.getElem_cons_zero, List.getElem_cons_succ, List.setIfInBounds_toArray, List.set_cons_zero, List.set_cons_succ])
      go_wp2
      have ew : IntKind.i64.wrap ((i : Int) + (k : Int)) = ((i + k : Nat) : Int) := by
        rw [i64_w]
        unfold wrap64
        omega
      rw [ew]
      refine ⟨⟨i + k, by omega, by omega, rfl, HR8, HB8⟩, ?_⟩
      show n - ((i + k : Nat) : Int).toNat < n - ((i : Nat) : Int).toNat
      omega
    · obtain rfl : i = n := by omega
      go_wp2
      go_ret
      exact ⟨b, cap, rfl, e5, e6, e2, by simpa [fillTo] using HR6.out, HB6.out⟩
end Go.Proofs.YtcfndcjbgalnpaaDoor.Hand
namespace Go.Proofs.YtcfndcjbgalnpaaDoor.Hand
open Go.RowKit Go.Proofs.YtcfndcjbgalnpaaDoorW.PrintWords Go.Proofs.YtcfndcjbgalnpaaDoorW.PrintLast
theorem fits_of (rows cols : Int) : PB.grid_fits.f rows cols = some (decide (1 ≤ rows ∧ rows ≤ 60 ∧ 1 ≤ cols ∧ cols ≤ 200)) := by
  unfold PB.grid_fits.f
  by_cases h1 : rows ≥ 1
  · rw [if_pos h1]
    by_cases h2 : rows ≤ 60
    · rw [if_pos h2]
      by_cases h3 : cols ≥ 1
      · rw [if_pos h3]
        by_cases h4 : cols ≤ 200
        · rw [decide_eq_true h4, decide_eq_true ⟨h1, h2, h3, h4⟩]
        · rw [decide_eq_false h4, decide_eq_false (fun h => h4 h.2.2.2)]
      · rw [if_neg h3, decide_eq_false (fun h => h3 h.2.2.1)]
    · rw [if_neg h2, decide_eq_false (fun h => h2 h.2.1)]
  · rw [if_neg h1, decide_eq_false (fun h => h1 h.1)]
theorem new_no {w : World} (rows cols : Int) (h : ¬ (1 ≤ rows ∧ rows ≤ 60 ∧ 1 ≤ cols ∧ cols ≤ 200)) :
    Calls Tryd.prog 10 #[.int .i64 rows, .int .i64 cols] w (fun e w' => e = .returned (.tuple #[.pointer none, .int .i64 1]) ∧ Below w.heap.size w w') := by
  have HF := Aside0.mk ((fits_of rows cols).trans (by rw [decide_eq_false h]))
  clear h
  go_enter Tryd.func10, Tryd.ntmps10
  go_wp2_with fail
  refine (PB.grid_fits.calls rows cols false w HF.out).mono ?_
  rintro e w1 ⟨rfl, hb⟩
  obtain ⟨m, rfl⟩ := hb
  have HB := Aside0.mk (below_drawn w m)
  generalize w.drewN m = w1 at *
  go_wp2
  go_ret2
  exact ⟨rfl, HB.out⟩
set_option maxHeartbeats 2000000 in
theorem new_yes {w : World} (r c : Nat) (h1 : 1 ≤ r) (h2 : r ≤ 60) (h3 : 1 ≤ c) (h4 : c ≤ 200) :
    Calls Tryd.prog 10 #[.int .i64 r, .int .i64 c] w (fun e w' => ∃ g b, e = .returned (.tuple #[.pointer (some ⟨g, 0, none⟩), .int .i64 0]) ∧ GridAt w' w.heap.size g b r c (List.replicate (r * c) (blankC 0)) ∧ Below w.heap.size w w') := by
  have HF := Aside0.mk ((fits_of r c).trans (by rw [decide_eq_true (show 1 ≤ (r : Int) ∧ (r : Int) ≤ 60 ∧ 1 ≤ (c : Int) ∧ (c : Int) ≤ 200 by omega)]))
  have hrc : r * c ≤ 12000 := Nat.mul_le_mul h2 h4
  have hrc1 : 1 ≤ r * c := Nat.mul_pos h1 h3
  obtain ⟨n, hn⟩ : ∃ n, r * c = n := ⟨_, rfl⟩
  have hw1 := wrap_mul hn (by omega)
  have HN := Aside0.mk hn
  rw [hn] at hrc hrc1 ⊢
  clear hn
  go_enter Tryd.func10, Tryd.ntmps10
  go_wp2_with fail
  refine (PB.grid_fits.calls r c true w HF.out).mono ?_
  rintro e w1 ⟨rfl, hb⟩
  obtain ⟨m, rfl⟩ := hb
  have HB := Aside0.mk (below_drawn w m)
  generalize w.drewN m = w1 at *
  go_wp2_with fail
  refine (PB.grid_blank.calls 32 0 0 0 0 w1 rfl).mono ?_
  rintro e w2 ⟨rfl, hb⟩
  have HB2 := Aside0.mk (below_step HB.out hb)
  clear hb HB
  go_wp2_with ((with_reducible refine gate_dst (N := 13) rfl ?_); refine Kd.R_lit kC (w0 := w) w.heap.size 32 ?hg (N := 13) ?hd (xs := [blankC 0]) (inner := (blankC 0).vs) (ok := fun _ => True) (okp := fun _ => True) ?hr ?hp (fun _ hk => hk) trivial HB2.out HB2.out.size (by simp) ?_; (case hd => rfl); (case hg => rfl); (case hr => first | (go_simp; done) | (go_simp; rfl)); (case hp => exact ⟨rfl, fun j p hj => by (rcases j with _ | j); (obtain rfl := Option.some.inj hj; exact kC_M.2 rfl); (simp at hj)⟩); intro v1 w3 ho hb hg_ hnew_; clear hg_ hnew_; have HO3 := Aside0.mk ho; have HB3 := Aside0.mk hb; clear ho hb HB2; obtain ⟨b1, cap1, rfl, _, _, hR3, _, _⟩ := rowAt_of_R HO3.out (by simp); have HR3 := Aside0.mk hR3; clear hR3 HO3)
  refine (repeat_calls HR3.out n hrc1 hrc).mono ?_
  rintro e w4 ⟨b, cap, rfl, k1, k2, k3, hR4, hb⟩
  have HR4 := Aside0.mk hR4
  have HB4 := Aside0.mk (below_step HB3.out hb)
  have hkb := Nat.le_trans HB3.out.size k3
  clear hR4 hb HB3 HR3
  go_wp2_with ((with_reducible refine gate_dst (N := 19) rfl ?_); refine box_event ?hg (N := 19) ?hd (cs := #[.int .i64 r, .int .i64 c, .slice (some ⟨b, 0, none⟩) n cap]) (t := 66) ?hr ?_; (case hd => rfl); (case hg => rfl); (case hr => first | (go_simp; done) | (go_simp; rfl)); intro gb hg w5 hbox hb; have HX := Aside0.mk hbox; have HB5 := Aside0.mk hb; have HGB := Aside0.mk hg; clear hbox hb hg)
  go_ret2
  have hR5 := HR4.out.below HB5.out
  have hbl := HR4.out.lt
  have hgb := HGB.out
  have hsz := HB4.out.size
  refine ⟨gb, b, rfl, ⟨⟨cap, by rw [List.length_replicate]; exact HX.out, by rw [List.length_replicate]; exact k1, k2⟩, hR5, by rw [List.length_replicate, HN.out], h1, h2, h3, h4, by omega, by omega, hkb⟩, below_step HB4.out HB5.out⟩
end Go.Proofs.YtcfndcjbgalnpaaDoor.Hand
namespace Go.Proofs.YtcfndcjbgalnpaaDoor.Hand
open Go.RowKit Go.Proofs.YtcfndcjbgalnpaaDoorW.PrintWords Go.Proofs.YtcfndcjbgalnpaaDoorW.PrintLast
theorem eqAttr (d : Nat) (w : World) (x0 y0 : Int) (x1 y1 : Int) (x2 y2 : Int) :
    (Op.equalIn (d + 2) 23 (.agg #[.int .i64 x0, .int .i64 x1, .int .i64 x2]) (.agg #[.int .i64 y0, .int .i64 y1, .int .i64 y2])).run Tryd.prog w = .ok (x0 == y0 && (x1 == y1 && (x2 == y2))) w := by
  refine eqA_of Tryd.underlying23 (by kernel_rfl) ?_
  refine eqf_cons (by rfl) (by go_simp; rfl) (by go_simp; rfl) (by go_simp) ?_
  refine eqf_cons (by rfl) (by go_simp; rfl) (by go_simp; rfl) (by go_simp) ?_
  exact eqf_last (by rfl) (by go_simp; rfl) (by go_simp; rfl) (by go_simp)
theorem eqCell (d : Nat) (w : World) (x0 y0 : Int) (x1 y1 : Int) (x2 y2 : Int) (x3 y3 : Int) (x4 y4 : Int) :
    (Op.equalIn (d + 3) 32 (.agg #[.int .i32 x0, .int .i64 x1, .int .i64 x2, .int .i64 x3, .int .i64 x4]) (.agg #[.int .i32 y0, .int .i64 y1, .int .i64 y2, .int .i64 y3, .int .i64 y4])).run Tryd.prog w = .ok (x0 == y0 && ((x1 == y1 && (x2 == y2 && (x3 == y3))) && (x4 == y4))) w := by
  have hua := Tryd.underlying23
  refine eqA_of Tryd.underlying32 (by kernel_rfl) ?_
  refine eqf_cons (by rfl) (by go_simp; rfl) (by go_simp; rfl) (by go_simp) ?_
  refine eqf_cons (by rfl) (by go_simp) (by go_simp) (eqAttr (d + 0) w _ _ _ _ _ _) ?_
  exact eqf_last (by rfl) (by go_simp; rfl) (by go_simp; rfl) (by go_simp)
def same5 (c d : C5) : Bool := c.r == d.r && ((c.f == d.f && (c.g == d.g && (c.b == d.b))) && (c.w == d.w))
theorem same5_iff {c d : C5} : same5 c d = true ↔ c = d := by
  obtain ⟨r, f, g, b, w⟩ := c
  obtain ⟨r', f', g', b', w'⟩ := d
  simp [same5, and_assoc]
theorem equal_cells (c d : C5) (W : World) : (Op.equal 32 c.agg d.agg).run Tryd.prog W = .ok (same5 c d) W :=
  eqCell 9997 W c.r d.r c.f d.f c.g d.g c.b d.b c.w d.w
theorem eql_cells (c d : C5) (W : World) : (binOp .eql 32 c.agg d.agg).run Tryd.prog W = .ok (.bool (same5 c d)) W := by
  have h := equal_cells c d W
  unfold binOp
  simp only [Sem.run_bind, h, Result.andThen_ok]
  rfl
theorem neq_cells (c d : C5) (W : World) : (binOp .neq 32 c.agg d.agg).run Tryd.prog W = .ok (.bool (!same5 c d)) W := by
  have h := equal_cells c d W
  unfold binOp
  simp only [Sem.run_bind, h, Result.andThen_ok]
  rfl
end Go.Proofs.YtcfndcjbgalnpaaDoor.Hand
namespace Go.Proofs.YtcfndcjbgalnpaaDoor.Hand
open Go.RowKit Go.Proofs.YtcfndcjbgalnpaaDoorW.PrintWords Go.Proofs.YtcfndcjbgalnpaaDoorW.PrintLast
theorem RowAt.drewN {w : World} {b : Nat} {L : List C5} (h : RowAt w b L) (m : Nat) : RowAt (w.drewN m) b L := h.below (below_drawn w m)
set_option maxHeartbeats 2000000 in
theorem equal_rows {w : World} {b1 b2 cap1 cap2 : Nat} {L1 L2 : List C5} (h1 : RowAt w b1 L1) (h2 : RowAt w b2 L2) (hl : L2.length = L1.length) (hs : L1.length ≤ 12000) :
    Calls Tryd.prog 51 #[.slice (some ⟨b1, 0, none⟩) L1.length cap1, .slice (some ⟨b2, 0, none⟩) L1.length cap2] w (fun e w' => e = .returned (.bool (decide (L1 = L2))) ∧ ∃ m, w' = w.drewN m) := by
  have H1 := Aside0.mk h1
  have H2 := Aside0.mk h2
  have HL := Aside0.mk hl
  obtain ⟨n, hn⟩ : ∃ n, L1.length = n := ⟨_, rfl⟩
  have HN := Aside0.mk hn
  rw [hn] at hs ⊢
  clear h1 h2 hl hn
  go_enter Tryd.func51, Tryd.ntmps51
  go_wp2
  go_loopw [13] (fun v13 wr => ∃ (i m : Nat), i ≤ n ∧ v13 = .int .i64 i ∧ wr = w.drewN m ∧ Aside0 (∀ j, j < i → L1[j]? = L2[j]?)) (fun v13 _ => n - (intOf v13).toNat)
  case atStart => exact ⟨0, 0, Nat.zero_le _, rfl, rfl, ⟨fun j hj => absurd hj (Nat.not_lt_zero j)⟩⟩
  case round =>
    obtain ⟨i, m, hi, rfl, rfl, HE⟩ := hrel
    by_cases hlt : i < n
    · obtain ⟨x, hx⟩ : ∃ x, L1[i]? = some x := ⟨_, List.getElem?_eq_getElem (by have := HN.out; omega)⟩
      obtain ⟨y, hy⟩ : ∃ y, L2[i]? = some y := ⟨_, List.getElem?_eq_getElem (by have := HN.out; have := HL.out; omega)⟩
      have hx0 : w.cell? ⟨b1, i * 5, none⟩ = some (.int .i32 x.r) := by rw [Nat.mul_comm]; exact H1.out.cell hx 0 (by omega)
      have hx1 : w.cell? ⟨b1, i * 5 + 1, none⟩ = some (.int .i64 x.f) := by rw [Nat.mul_comm]; exact H1.out.cell hx 1 (by omega)
      have hx2 : w.cell? ⟨b1, i * 5 + 2, none⟩ = some (.int .i64 x.g) := by rw [Nat.mul_comm]; exact H1.out.cell hx 2 (by omega)
      have hx3 : w.cell? ⟨b1, i * 5 + 3, none⟩ = some (.int .i64 x.b) := by rw [Nat.mul_comm]; exact H1.out.cell hx 3 (by omega)
      have hx4 : w.cell? ⟨b1, i * 5 + 4, none⟩ = some (.int .i64 x.w) := by rw [Nat.mul_comm]; exact H1.out.cell hx 4 (by omega)
      have hy0 : w.cell? ⟨b2, i * 5, none⟩ = some (.int .i32 y.r) := by rw [Nat.mul_comm]; exact H2.out.cell hy 0 (by omega)
      have hy1 : w.cell? ⟨b2, i * 5 + 1, none⟩ = some (.int .i64 y.f) := by rw [Nat.mul_comm]; exact H2.out.cell hy 1 (by omega)
      have hy2 : w.cell? ⟨b2, i * 5 + 2, none⟩ = some (.int .i64 y.g) := by rw [Nat.mul_comm]; exact H2.out.cell hy 2 (by omega)
      have hy3 : w.cell? ⟨b2, i * 5 + 3, none⟩ = some (.int .i64 y.b) := by rw [Nat.mul_comm]; exact H2.out.cell hy 3 (by omega)
      have hy4 : w.cell? ⟨b2, i * 5 + 4, none⟩ = some (.int .i64 y.w) := by rw [Nat.mul_comm]; exact H2.out.cell hy 4 (by omega)
      have hq : ∀ W : World, (binOp .neq 32 (.agg #[.int .i32 x.r, .int .i64 x.f, .int .i64 x.g, .int .i64 x.b, .int .i64 x.w]) (.agg #[.int .i32 y.r, .int .i64 y.f, .int .i64 y.g, .int .i64 y.b, .int .i64 y.w])).run Tryd.prog W = .ok (.bool (!same5 x y)) W := neq_cells x y
      have HX := Aside0.mk hx
      have HY := Aside0.mk hy
      clear hx hy
      cases hxy : same5 x y with
      | false =>
        rw [hxy] at hq
        have hne : decide (L1 = L2) = false := decide_eq_false (fun e => by
          have h1 := HX.out
          rw [e, HY.out] at h1
          rw [Option.some.inj h1, (same5_iff).2 rfl] at hxy
          cases hxy)
        have HNE := Aside0.mk hne
        clear hne
        go_wp2
        go_quiet (fail)
        go_wp2
        go_ret
        rw [HNE.out]
        exact ⟨rfl, m + nq, by first | rfl | rw [World.drewN_drewN]⟩
      | true =>
        rw [hxy] at hq
        have he := same5_iff.1 hxy
        have HE2 : Aside0 (∀ j, j < i + 1 → L1[j]? = L2[j]?) := ⟨fun j hj => by
          rcases Nat.lt_or_ge j i with h | h
          · exact HE.out j h
          · obtain rfl : j = i := by omega
            rw [HX.out, HY.out, he]⟩
        clear he HE
        go_wp2
        go_quiet (fail)
        go_wp2
        refine ⟨⟨i + 1, m + nq, by omega, by go_num, by first | rfl | rw [World.drewN_drewN], HE2⟩, by simp [intOf]; omega⟩
    · obtain rfl : i = n := by omega
      have he : decide (L1 = L2) = true := decide_eq_true (List.ext_getElem? fun j => by
        rcases Nat.lt_or_ge j i with h | h
        · exact HE.out j h
        · rw [List.getElem?_eq_none (by have := HN.out; omega), List.getElem?_eq_none (by have := HN.out; have := HL.out; omega)])
      go_wp2
      go_ret
      rw [he]
      exact ⟨rfl, m, rfl⟩
set_option maxHeartbeats 2000000 in
theorem same_calls {w : World} {base g1 b1 g2 b2 r c : Nat} {L1 L2 : List C5} (h1 : GridAt w base g1 b1 r c L1) (h2 : GridAt w base g2 b2 r c L2) :
    Calls Tryd.prog 31 #[.pointer (some ⟨g1, 0, none⟩), .pointer (some ⟨g2, 0, none⟩)] w (fun e w' => e = .returned (.bool (decide (L1 = L2))) ∧ ∃ m, w' = w.drewN m) := by
  obtain ⟨cap1, _, _, x0, x1, x2⟩ := h1.cells
  obtain ⟨cap2, _, _, y0, y1, y2⟩ := h2.cells
  have hl : L2.length = L1.length := h2.len.trans h1.len.symm
  rw [hl] at y2
  have HS := Aside0.mk h1.small
  have H1 := Aside0.mk h1.row
  have H2 := Aside0.mk h2.row
  have HL := Aside0.mk hl
  clear h1 h2 hl
  go_enter Tryd.func31, Tryd.ntmps31
  go_wp2
  go_quiet ((go_at_call 51; refine Calls.quiet_of (equal_rows (H1.out.drewN _) (H2.out.drewN _) HL.out HS.out)))
  go_wp2
  go_ret
  exact ⟨rfl, nq, rfl⟩
end Go.Proofs.YtcfndcjbgalnpaaDoor.Hand
namespace Go.Proofs.YtcfndcjbgalnpaaDoor.Hand
open Go.RowKit Go.Proofs.YtcfndcjbgalnpaaDoorW.PrintWords Go.Proofs.YtcfndcjbgalnpaaDoorW.PrintLast
theorem put_grid {w w' : World} {base g b r c : Nat} {L : List C5} (h : GridAt w base g b r c L) {n : Nat} (hn : n < r) (j : Nat) (x : C5) (hR : RowAt w' b (putL c L n j x)) (hg : w.grownBy w' (some b)) : GridAt w' base g b r c (putL c L n j x) :=
  h.wrote hg hR (putL_length h.len hn j x)
theorem field_w (r f g b x : Int) (W : World) : (Instr.field 32 (.agg #[.int .i32 r, .int .i64 f, .int .i64 g, .int .i64 b, .int .i64 x]) 2).run Tryd.prog W = .ok (.int .i64 x) W := by
  have hu := Tryd.underlying32
  first | (go_simp; done) | (go_simp; rfl) | (unfold Instr.field; go_simp; rfl)
theorem field_r (r f g b x : Int) (W : World) : (Instr.field 32 (.agg #[.int .i32 r, .int .i64 f, .int .i64 g, .int .i64 b, .int .i64 x]) 0).run Tryd.prog W = .ok (.int .i32 r) W := by
  have hu := Tryd.underlying32
  first | (go_simp; done) | (go_simp; rfl) | (unfold Instr.field; go_simp; rfl)
def w4e : C5 := ⟨19968, 0, 0, 0, 1⟩
def n41 : C5 := ⟨65, 0, 0, 0, 0⟩
def L0 : List C5 := List.replicate (1 * 3) (blankC 0)
def L1 : List C5 := putL 3 L0 0 0 w4e
def L2 : List C5 := putL 3 L1 0 1 n41
theorem may_w4e : PB.cell_May.f 9 19968 0 0 0 1 = some true := by decide +kernel
theorem may_n41 : PB.cell_May.f 9 65 0 0 0 0 = some true := by decide +kernel
theorem at_01 : atC 1 3 L1 0 1 = ⟨0, 0, 0, 0, 2⟩ := by decide
theorem at_00 : atC 1 3 L2 0 0 = ⟨32, 0, 0, 0, 0⟩ := by decide
theorem at_01b : atC 1 3 L2 0 1 = n41 := by decide
theorem at_10 : atC 1 3 L2 1 0 = z5 := by decide
set_option maxHeartbeats 2000000 in
theorem first_calls {w : World} (hT : TabW w) : Calls Tryd.prog 9 #[] w (fun e w' => e = .returned (.bool true) ∧ Below w.heap.size w w') := by
  have hfw := field_w
  have hfr := field_r
  have HT := Aside0.mk hT
  have h2w := hT.1
  clear hT
  go_enter Tryd.func9, Tryd.ntmps9
  go_wp2_with fail
  refine (new_yes 1 3 (by decide) (by decide) (by decide) (by decide)).mono ?_
  rintro e w1 ⟨g, b, rfl, hG1, hb1⟩
  have HB1 := Aside0.mk hb1
  have HG1 := Aside0.mk (show GridAt w1 w.heap.size g b 1 3 L0 from hG1)
  clear hb1 hG1
  go_wp2_with fail
  refine (put_yes HG1.out (tabAt HT.out HB1.out) 0 0 (by decide) (by decide) w4e 9 may_w4e (by decide)).mono ?_
  rintro e w2 ⟨rfl, hR2, hg2⟩
  have HG2 := Aside0.mk (show GridAt w2 w.heap.size g b 1 3 L1 from put_grid HG1.out (by decide) 0 w4e hR2 hg2)
  have HB2 := Aside0.mk (below_grown_by HB1.out rfl hg2 (fun k hk => by injection hk with hk; subst hk; exact HG1.out.bb))
  clear hR2 hg2 HB1 HG1
  go_wp2_with fail
  refine (at_calls HG2.out 0 1).mono ?_
  rintro e w3 ⟨rfl, hb3⟩
  rw [at_01]
  dsimp only [C5.agg, n41, z5]
  have HG3 := Aside0.mk (HG2.out.below hb3)
  have HB3 := Aside0.mk (below_step HB2.out hb3)
  clear hb3 HG2 HB2
  go_wp2_with fail
  refine (put_yes HG3.out (tabAt HT.out HB3.out) 0 1 (by decide) (by decide) n41 9 may_n41 (by decide)).mono ?_
  rintro e w4 ⟨rfl, hR4, hg4⟩
  have HG4 := Aside0.mk (show GridAt w4 w.heap.size g b 1 3 L2 from put_grid HG3.out (by decide) 1 n41 hR4 hg4)
  have HB4 := Aside0.mk (below_grown_by HB3.out rfl hg4 (fun k hk => by injection hk with hk; subst hk; exact HG3.out.bb))
  clear hR4 hg4 HB3 HG3
  go_wp2_with fail
  refine (at_calls HG4.out 0 0).mono ?_
  rintro e w5 ⟨rfl, hb5⟩
  rw [at_00]
  dsimp only [C5.agg, n41, z5]
  have HG5 := Aside0.mk (HG4.out.below hb5)
  have HB5 := Aside0.mk (below_step HB4.out hb5)
  clear hb5 HG4 HB4
  go_wp2_with fail
  refine (at_calls HG5.out 0 1).mono ?_
  rintro e w6 ⟨rfl, hb6⟩
  rw [at_01b]
  dsimp only [C5.agg, n41, z5]
  have HG6 := Aside0.mk (HG5.out.below hb6)
  have HB6 := Aside0.mk (below_step HB5.out hb6)
  clear hb6 HG5 HB5
  go_wp2_with fail
  refine (rows_calls HG6.out).mono ?_
  rintro e w7 ⟨rfl, rfl⟩
  go_wp2_with fail
  refine (cols_calls HG6.out).mono ?_
  rintro e w8 ⟨rfl, rfl⟩
  go_wp2_with fail
  refine (same_calls HG6.out HG6.out).mono ?_
  rintro e w9 ⟨rfl, m, rfl⟩
  rw [decide_eq_true (rfl : L2 = L2)]
  have HG7 := Aside0.mk (HG6.out.below (below_drawn _ m))
  have HB7 := Aside0.mk (below_step HB6.out (below_drawn _ m))
  clear HG6 HB6
  go_wp2_with fail
  refine (at_calls HG7.out 1 0).mono ?_
  rintro e w10 ⟨rfl, hb10⟩
  rw [at_10]
  dsimp only [C5.agg, n41, z5]
  have HB8 := Aside0.mk (below_step HB7.out hb10)
  have hq : ∀ W : World, (binOp .eql 32 (.agg #[.int .i32 0, .int .i64 0, .int .i64 0, .int .i64 0, .int .i64 0]) (.agg #[.int .i32 0, .int .i64 0, .int .i64 0, .int .i64 0, .int .i64 0])).run Tryd.prog W = .ok (.bool true) W := eql_cells z5 z5
  go_wp2
  go_ret
  exact ⟨rfl, HB8.out⟩
end Go.Proofs.YtcfndcjbgalnpaaDoor.Hand
namespace Go.Proofs.YtcfndcjbgalnpaaDoor.Hand
open Go.RowKit Go.Proofs.YtcfndcjbgalnpaaDoorW.PrintWords Go.Proofs.YtcfndcjbgalnpaaDoorW.PrintLast
theorem cells_calls {w : World} {base g b r c : Nat} {L : List C5} (h : GridAt w base g b r c L) :
    Calls Tryd.prog 24 #[.pointer (some ⟨g, 0, none⟩)] w (fun e w' => ∃ b' cap', e = .returned (.slice (some ⟨b', 0, none⟩) L.length cap') ∧ L.length ≤ cap' ∧ cap' ≤ maxLen ∧ w.heap.size ≤ b' ∧ RowAt w' b' L ∧ Below w.heap.size w w') := by
  obtain ⟨cap, k1, k2, c0, c1, c2⟩ := h.cells
  have hpos : 0 < L.length := by rw [h.len]; exact Nat.mul_pos h.r1 h.c1
  have hs := h.small
  have HR := Aside0.mk h.row
  clear h
  go_enter Tryd.func24, Tryd.ntmps24
  go_wp2_with fail
  refine (clone_calls HR.out 0 L.length hpos (by omega) hs k1).mono ?_
  rintro e w1 ⟨b', cap', rfl, q1, q2, q3, hR, hb⟩
  rw [List.drop_zero, List.take_length] at hR
  have HR1 := Aside0.mk hR
  have HB1 := Aside0.mk hb
  clear hR hb
  go_wp2
  go_ret
  exact ⟨b', cap', rfl, q1, q2, q3, HR1.out, HB1.out⟩
end Go.Proofs.YtcfndcjbgalnpaaDoor.Hand
namespace Go.Proofs.YtcfndcjbgalnpaaDoor.Hand
open Go.RowKit Go.Proofs.YtcfndcjbgalnpaaDoorW.PrintWords Go.Proofs.YtcfndcjbgalnpaaDoorW.PrintLast
theorem GridAt.lower {w : World} {base base' g b r c : Nat} {L : List C5} (h : GridAt w base g b r c L) (hb : base' ≤ base) : GridAt w base' g b r c L := { h with bg := Nat.le_trans hb h.bg, bb := Nat.le_trans hb h.bb }
structure MLive (w : World) (base g b r c : Nat) (L : List C5) (gb : Nat) (a0 a1 a2 : Int) (W : World) : Prop where
  grown : w.grownBy W (some b)
  grid : GridAt W base g b r c L
  box : W.heap[gb]? = some (.cells #[.int .i64 a0, .int .i64 a1, .int .i64 a2] 23 (0, 0))
section
variable {w W W' : World} {base g b r c gb : Nat} {L L' : List C5} {a0 a1 a2 : Int}
theorem MLive.next (h : MLive w base g b r c L gb a0 a1 a2 W) (hb : Below W.heap.size W W') : MLive w base g b r c L gb a0 a1 a2 W' :=
  ⟨grown_below h.grown hb, h.grid.below hb, blk_below h.box hb⟩
structure MBase (w : World) (g b r c n cap gb : Nat) (a0 a1 a2 : Int) (W : World) : Prop where
  grown : w.grownBy W (some b)
  blk : W.heap[g]? = some (.cells #[.int .i64 r, .int .i64 c, .slice (some ⟨b, 0, none⟩) n cap] 66 (0, 0))
  row : ∃ cs, W.heap[b]? = some (.cells cs 32 (0, 0))
  box : W.heap[gb]? = some (.cells #[.int .i64 a0, .int .i64 a1, .int .i64 a2] 23 (0, 0))
variable {n cap : Nat}
theorem MLive.base_ (h : MLive w base g b r c L gb a0 a1 a2 W) : ∃ cap, L.length ≤ cap ∧ cap ≤ maxLen ∧ MBase w g b r c L.length cap gb a0 a1 a2 W := by
  obtain ⟨cap, e, e1, e2⟩ := h.grid.blk
  obtain ⟨ex, hb⟩ := h.grid.row.out
  exact ⟨cap, e1, e2, h.grown, e, ⟨_, hb⟩, h.box⟩
theorem MBase.next (h : MBase w g b r c n cap gb a0 a1 a2 W) (hb : Below W.heap.size W W') : MBase w g b r c n cap gb a0 a1 a2 W' :=
  ⟨grown_below h.grown hb, blk_below h.blk hb, h.row.elim fun cs q => ⟨cs, blk_below q hb⟩, blk_below h.box hb⟩
theorem MBase.wrote (h : MBase w g b r c n cap gb a0 a1 a2 W) (hR : RowAt W' b L') (hg : W.grownBy W' (some b)) : MBase w g b r c n cap gb a0 a1 a2 W' := by
  obtain ⟨cs, hb⟩ := h.row
  obtain ⟨ex, hb2⟩ := hR.out
  exact ⟨grown_trans h.grown hg, (hg.block g (blk_lt h.blk) (fun e => blk_ne h.blk hb (by decide) (Option.some.inj e))).trans h.blk, ⟨_, hb2⟩, (hg.block gb (blk_lt h.box) (fun e => blk_ne h.box hb (by decide) (Option.some.inj e))).trans h.box⟩
@[reducible] def MHeld (w : World) (g b r c n cap gb : Nat) (a0 a1 a2 : Int) (W : World) : Prop :=
  W.cell? ⟨gb, 0, none⟩ = some (.int .i64 a0) ∧ W.cell? ⟨gb, 1, none⟩ = some (.int .i64 a1) ∧ W.cell? ⟨gb, 2, none⟩ = some (.int .i64 a2) ∧
  W.cell? ⟨g, 1, none⟩ = some (.int .i64 (c : Int)) ∧ W.cell? ⟨g, 2, none⟩ = some (.slice (some ⟨b, 0, none⟩) n cap) ∧ MBase w g b r c n cap gb a0 a1 a2 W
theorem MBase.held (h : MBase w g b r c n cap gb a0 a1 a2 W) : MHeld w g b r c n cap gb a0 a1 a2 W :=
  ⟨(blk_cell h.box 0).trans rfl, (blk_cell h.box 1).trans rfl, (blk_cell h.box 2).trans rfl, (blk_cell h.blk 1).trans rfl, (blk_cell h.blk 2).trans rfl, h⟩
theorem MHeld.base_ (h : MHeld w g b r c n cap gb a0 a1 a2 W) : MBase w g b r c n cap gb a0 a1 a2 W := h.2.2.2.2.2
theorem MHeld.next (h : MHeld w g b r c n cap gb a0 a1 a2 W) (hb : Below W.heap.size W W') : MHeld w g b r c n cap gb a0 a1 a2 W' := (h.base_.next hb).held
theorem MHeld.wrote (h : MHeld w g b r c n cap gb a0 a1 a2 W) (hR : RowAt W' b L') (hg : W.grownBy W' (some b)) : MHeld w g b r c n cap gb a0 a1 a2 W' := (h.base_.wrote hR hg).held
theorem MLive.looks (h : MLive w base g b r c L gb a0 a1 a2 W) : W.cell? ⟨gb, 0, none⟩ = some (.int .i64 a0) ∧ W.cell? ⟨gb, 1, none⟩ = some (.int .i64 a1) ∧ W.cell? ⟨gb, 2, none⟩ = some (.int .i64 a2) :=
  ⟨(blk_cell h.box 0).trans rfl, (blk_cell h.box 1).trans rfl, (blk_cell h.box 2).trans rfl⟩
end
theorem splice_nil {α : Type} (L : List α) (p : Nat) : splice L p [] = L := by simp [splice]
theorem cut_some {b n cap i o : Nat} (h1 : i ≤ n) (h2 : n ≤ cap) : ∃ p, (∀ W : World, (Instr.slice 49 (.slice (some ⟨b, 5 * o, none⟩) n cap) (some (.int .i64 (i : Int))) none none).run Tryd.prog W = .ok (.slice (some ⟨b, 5 * p, none⟩) (n - i) (cap - i)) W) ∧ p ≤ o + i ∧ (i < n → p = o + i) := by
  obtain ⟨f, hi', hsz⟩ := info_cellE
  by_cases h : cap = i
  · refine ⟨o, fun W => ?_, by omega, fun h => by omega⟩
    rw [cut_from 49 32 .i64 Tryd.underlying49 hi' 5 hsz (some ⟨b, 5 * o, none⟩) n cap i (by omega) (by omega) W, Int.toNat_natCast, if_pos h]
  · refine ⟨o + i, fun W => ?_, Nat.le_refl _, fun _ => rfl⟩
    rw [cut_from 49 32 .i64 Tryd.underlying49 hi' 5 hsz (some ⟨b, 5 * o, none⟩) n cap i (by omega) (by omega) W, Int.toNat_natCast, if_neg h, Option.map_some, add_at, show 5 * o + i * 5 = 5 * (o + i) by omega]
theorem splice_some {α : Type} {L M : List α} {p o k : Nat} (hm : M.length = k) (h : 0 < k → p = o) : splice L p M = splice L o M := by
  rcases Nat.eq_zero_or_pos k with h0 | h0
  · obtain rfl : M = [] := List.eq_nil_of_length_eq_zero (by omega)
    rw [splice_nil, splice_nil]
  · rw [h h0]
def mendRow (c : Nat) (L : List C5) (n : Nat) : List C5 := splice L (n * c) (mendL ((L.drop (n * c)).take c))
theorem mendRow_length {r c : Nat} {L : List C5} (hl : L.length = r * c) {n : Nat} (hn : n < r) : (mendRow c L n).length = L.length := by
  have h1 := place_le (c := c) hn
  unfold mendRow
  rw [splice_length _ _ _ (by rw [mendL_length, part_length L (n * c) c (by omega)]; omega)]
def eraseL (c : Nat) (L : List C5) (n p q : Nat) (x : C5) : List C5 := mendRow c (splice L (n * c + p) (List.replicate (q - p) x)) n
def upL (L : List C5) (o len k : Nat) (x : C5) : List C5 := splice (splice L o ((L.drop (o + k)).take (len - k))) (o + (len - k)) (List.replicate k x)
def downL (L : List C5) (o len k : Nat) (x : C5) : List C5 := splice (splice L (o + k) ((L.drop o).take (len - k))) o (List.replicate k x)
theorem upL_length {L : List C5} {o len k : Nat} (x : C5) (h : o + len ≤ L.length) (hk : k ≤ len) : (upL L o len k x).length = L.length := by
  have h1 : ((L.drop (o + k)).take (len - k)).length = len - k := part_length L (o + k) (len - k) (by omega)
  have h2 : (splice L o ((L.drop (o + k)).take (len - k))).length = L.length := splice_length _ _ _ (by omega)
  unfold upL
  rw [splice_length _ _ _ (by rw [List.length_replicate]; omega), h2]
theorem downL_length {L : List C5} {o len k : Nat} (x : C5) (h : o + len ≤ L.length) (hk : k ≤ len) : (downL L o len k x).length = L.length := by
  have h1 : ((L.drop o).take (len - k)).length = len - k := part_length L o (len - k) (by omega)
  have h2 : (splice L (o + k) ((L.drop o).take (len - k))).length = L.length := splice_length _ _ _ (by omega)
  unfold downL
  rw [splice_length _ _ _ (by rw [List.length_replicate]; omega), h2]
end Go.Proofs.YtcfndcjbgalnpaaDoor.Hand
namespace Go.Proofs.YtcfndcjbgalnpaaDoor.Hand
open Go.RowKit Go.Proofs.YtcfndcjbgalnpaaDoorW.PrintWords Go.Proofs.YtcfndcjbgalnpaaDoorW.PrintLast
theorem step_ifc {c E : Prop} [Decidable c] (h : c) {X : Prop} (hx : X) : if c then X else E := by rw [if_pos h]; exact hx
set_option maxHeartbeats 1000000 in
theorem copy_calls {w : World} {base g b r c : Nat} {L : List C5} (h : GridAt w base g b r c L) :
    Calls Tryd.prog 16 #[.pointer (some ⟨g, 0, none⟩)] w (fun e w' => ∃ g' b', e = .returned (.pointer (some ⟨g', 0, none⟩)) ∧ GridAt w' w.heap.size g' b' r c L ∧ Below w.heap.size w w') := by
  have HGd := Aside0.mk (h.below (below_drew (Below.refl _ _)))
  have HH := Aside0.mk h
  obtain ⟨cap, k1, k2, c0, c1, c2⟩ := HGd.out.cells
  have hpos : 0 < L.length := by rw [h.len]; exact Nat.mul_pos h.r1 h.c1
  have hs := h.small
  clear h
  go_enter Tryd.func16, Tryd.ntmps16
  go_wp2
  go_region_law ((try simp only [Act.put, List.getElem_toArray, List.getElem_cons_zero, List.getElem_cons_succ, List.setIfInBounds_toArray, List.set_cons_zero, List.set_cons_succ]); refine step_ifc (by rfl) ?_; go_simp; go_at_call 40; refine (clone_calls HGd.out.row 0 L.length hpos (by omega) hs k1).mono ?_; rintro e w1 ⟨b', cap', rfl, q1, q2, q3, hR, hb⟩; rw [List.drop_zero, List.take_length] at hR; have HR := Aside0.mk hR; have HB := Aside0.mk hb; clear hR; have hx := HGd.out.below hb; have hcx := (hx.cells.elim fun _ q => q.2.2.1); have hcy := (hx.cells.elim fun _ q => q.2.2.2.1); clear hb)
  all_goals
    (try simp only [Act.put, List.getElem_toArray, List.getElem_cons_zero, List.getElem_cons_succ, List.setIfInBounds_toArray, List.set_cons_zero, List.set_cons_succ])
    go_wp2
    go_ret
    have hB := below_step (below_drew (Below.refl w.heap.size w)) HB.out
    exact ⟨_, b', rfl, ⟨⟨cap', blk_new _ _, q1, q2⟩, HR.out.below (below_alloc (Below.refl _ _) _), HH.out.len, HH.out.r1, HH.out.r2, HH.out.c1, HH.out.c2, Nat.ne_of_gt HR.out.lt, hB.size, q3⟩, below_alloc hB _⟩
end Go.Proofs.YtcfndcjbgalnpaaDoor.Hand
namespace Go.Proofs.YtcfndcjbgalnpaaDoor.Hand
open Go.RowKit Go.Proofs.YtcfndcjbgalnpaaDoorW.PrintWords Go.Proofs.YtcfndcjbgalnpaaDoorW.PrintLast
def eraseOk (r c : Nat) (row p q : Int) (m : Bool) : Bool := decide (0 ≤ row ∧ row < r) && decide (max p 0 < min q c) && m
def eraseG (r c : Nat) (L : List C5) (row p q : Int) (a2 : Int) (m : Bool) : List C5 := if eraseOk r c row p q m = true then eraseL c L row.toNat (max p 0).toNat (min q c).toNat (blankC a2) else L
theorem isB_zero {r c : Nat} (hc : 1 ≤ c) (row : Int) : isB r c row 0 = decide (0 ≤ row ∧ row < r) := by
  unfold isB
  by_cases h : 0 ≤ row ∧ row < r
  · rw [decide_eq_true h, decide_eq_true ⟨h.1, h.2, by omega, by omega⟩]
  · rw [decide_eq_false h, decide_eq_false (fun q => h ⟨q.1, q.2.1⟩)]
set_option maxHeartbeats 4000000 in
theorem erase_calls {w : World} {base g b r c : Nat} {L : List C5} (h : GridAt w base g b r c L) (row p q a0 a1 a2 : Int) (m : Bool) (hm : PB.cell_MayAttr.f a0 a1 a2 = some m) :
    Calls Tryd.prog 22 #[.pointer (some ⟨g, 0, none⟩), .int .i64 row, .int .i64 p, .int .i64 q, .agg #[.int .i64 a0, .int .i64 a1, .int .i64 a2]] w (fun e w' => e = .returned (.tuple #[]) ∧ RowAt w' b (eraseG r c L row p q a2 m) ∧ w.grownBy w' (some b)) := by
  have HG := Aside0.mk h
  have HM := Aside0.mk hm
  clear h hm
  go_enter Tryd.func22, Tryd.ntmps22
  go_wp2_with ((with_reducible refine gate_dst (N := 9) rfl ?_); refine box_event ?hg (N := 9) ?hd (cs := #[.int .i64 a0, .int .i64 a1, .int .i64 a2]) (t := 23) ?hr ?_; (case hd => rfl); (case hg => rfl); (case hr => first | (go_simp; done) | (go_simp; rfl)); intro gb hg w3 hbox hb; have HX := Aside0.mk hbox; have HB3 := Aside0.mk hb; clear hbox hb hg)
  have HL3 := Aside0.mk (show MLive w base g b r c L gb a0 a1 a2 w3 from ⟨grown_of_none HB3.out, HG.out.below HB3.out, HX.out⟩)
  clear HX HB3 HG
  have zc : w3.cell? ⟨g, 1, none⟩ = some (.int .i64 (c : Int)) := (HL3.out.grid.cells.elim fun _ q => q.2.2.2.1)
  go_quiet (fail)
  have HL5 := Aside0.mk (HL3.out.next (below_drawn _ nq))
  clear zc HL3
  generalize w3.drewN nq = w5 at *
  have hPe : (if p < 0 then 0 else p) = max p 0 := by omega
  have hQe : (if (c : Int) < q then (c : Int) else q) = min q c := by omega
  rw [hPe, hQe]
  clear hPe hQe
  have hP0 : 0 ≤ max p 0 := by omega
  have hQc : min q (c : Int) ≤ c := by omega
  have EO : Aside0 (eraseG r c L row p q a2 m = if (decide (0 ≤ row ∧ row < r) && decide (max p 0 < min q c) && m) = true then eraseL c L row.toNat (max p 0).toNat (min q c).toNat (blankC a2) else L) := ⟨rfl⟩
  generalize max p 0 = P at *
  generalize min q (c : Int) = Q at *
  go_wp2_with fail
  refine (is_calls HL5.out.grid row 0).mono ?_
  rintro e w6 ⟨rfl, rfl⟩
  rw [isB_zero HL5.out.grid.c1]
  by_cases hrow : 0 ≤ row ∧ row < r
  case neg =>
    rw [decide_eq_false hrow] at *
    go_wp2
    refine ⟨rfl, .tuple #[], results_none rfl _ _ _, ?_⟩
    rw [EO.out, Bool.false_and, Bool.false_and, if_neg (by decide)]
    exact ⟨rfl, HL5.out.grid.row, HL5.out.grown⟩
  rw [decide_eq_true hrow] at *
  by_cases hPQ : P < Q
  case neg =>
    rw [decide_eq_false hPQ] at *
    go_wp2
    refine ⟨rfl, .tuple #[], results_none rfl _ _ _, ?_⟩
    rw [EO.out, Bool.and_false, Bool.false_and, if_neg (by decide)]
    exact ⟨rfl, HL5.out.grid.row, HL5.out.grown⟩
  rw [decide_eq_true hPQ] at *
  obtain ⟨x0, x1, x2⟩ := HL5.out.looks
  go_wp2_with fail
  refine (PB.cell_MayAttr.calls a0 a1 a2 m w6 HM.out).mono ?_
  rintro e w7 ⟨rfl, hb7⟩
  have HL7 := Aside0.mk (HL5.out.next hb7)
  clear hb7 HL5 x0 x1 x2
  cases m with
  | false =>
    go_wp2
    refine ⟨rfl, .tuple #[], results_none rfl _ _ _, ?_⟩
    rw [EO.out, Bool.and_false, if_neg (by decide)]
    exact ⟨rfl, HL7.out.grid.row, HL7.out.grown⟩
  | true =>
  rw [Bool.true_and, Bool.true_and, if_pos rfl] at EO
  obtain ⟨n, rfl⟩ := Int.eq_ofNat_of_zero_le hrow.1
  obtain ⟨x, rfl⟩ := Int.eq_ofNat_of_zero_le hP0
  obtain ⟨y, rfl⟩ := Int.eq_ofNat_of_zero_le (show 0 ≤ Q by omega)
  have hn : n < r := by omega
  have hxy : x < y := by omega
  have hyc : y ≤ c := by omega
  simp only [Int.toNat_natCast] at EO
  have hle := place_le (c := c) hn
  rw [← HL7.out.grid.len] at hle
  have hsm := HL7.out.grid.small
  have hc1 := HL7.out.grid.c1
  clear hrow hP0 hQc hPQ
  go_wp2
  have HL8 := Aside0.mk (HL7.out.next (below_drew (Below.refl _ _)))
  have HR8 := Aside0.mk HL8.out.grid.row
  have HLN := Aside0.mk HL8.out.grid.len
  have HR2 := Aside0.mk HL8.out.grid.r2
  have HC2 := Aside0.mk HL8.out.grid.c2
  obtain ⟨cap, k1, k2, hbase⟩ := HL8.out.base_
  have HLd := Aside0.mk hbase.held
  clear hbase HL7 HL8
  have hcap : c ≤ cap - n * c := by omega
  have hcut := fun W => cut_row (b := b) (n := c) (cap := cap - n * c) (lo := x) (hi := y) (by omega) hyc hcap (by omega) (n * c) W
  generalize hcp : cap - n * c = cp at *
  have HCP := Aside0.mk hcp
  clear hcp
  go_region_held3 (fun w' => w'.cell? ⟨gb, 0, none⟩ = some (.int .i64 a0) ∧ w'.cell? ⟨gb, 1, none⟩ = some (.int .i64 a1) ∧ w'.cell? ⟨gb, 2, none⟩ = some (.int .i64 a2) ∧ w'.cell? ⟨g, 1, none⟩ = some (.int .i64 (c : Int)) ∧ w'.cell? ⟨g, 2, none⟩ = some (.slice (some ⟨b, 0, none⟩) L.length cap) ∧ MBase w g b r c L.length cap gb a0 a1 a2 w') (first | exact MHeld.wrote (by assumption) HRf.out hgf | exact MHeld.next (by assumption) hbc | exact HLd.out)
    (first
      | (go_at_call 37; with_reducible refine (row_calls (show MHeld w g b r c L.length cap gb a0 a1 a2 _ by assumption).2.2.2.1 (show MHeld w g b r c L.length cap gb a0 a1 a2 _ by assumption).2.2.2.2.1 n hn HLN.out k1 hsm HR2.out hc1 HC2.out).mono ?_; rintro e w8 ⟨rfl, m8, hw8⟩; have hbc : Below w7.drew.heap.size w7.drew w8 := (by rw [hw8]; exact below_drawn w7.drew m8); clear hw8; have HR9 := Aside0.mk (HR8.out.below hbc); rw [HCP.out])
      | (go_at_call 14; with_reducible refine (PB.cell_Blank.calls a0 a1 a2 32 0 0 a2 0 _ rfl).mono ?_; rintro e w9 ⟨rfl, hbc⟩; have HR10 := Aside0.mk (HR9.out.below hbc))
      | (go_at_call 41; refine (fill_calls (cap := cp - x) HR10.out (n * c + x) (y - x) (by omega) hsm (blankC a2) (by omega)).mono ?_; rintro e w10 ⟨rfl, hRf, hgf⟩; have HRf := Aside0.mk hRf; clear hRf))
  have HH := Aside0.mk (show MHeld w g b r c L.length cap gb a0 a1 a2 _ by assumption)
  obtain ⟨_, _, _, v1, v2, _⟩ := HH.out
  have HLL : (splice L (n * c + x) (List.replicate (y - x) (blankC a2))).length = L.length := splice_length _ _ _ (by rw [List.length_replicate]; omega)
  clear HR8 HR9 HR10 HLd
  go_wp2_with fail
  refine (row_calls v1 v2 n hn HLN.out k1 hsm HR2.out hc1 HC2.out).mono ?_
  rintro e w11 ⟨rfl, m11, rfl⟩
  have HR11 := Aside0.mk (HRf.out.below (below_drawn _ m11))
  have HG11 := Aside0.mk (grown_below HH.out.base_.grown (below_drawn _ m11))
  rw [HCP.out]
  clear v1 v2 HRf HH
  go_wp2_with fail
  refine (mend_calls HR11.out (n * c) c hc1 (by rw [HLL]; exact hle) (by rw [HLL]; exact hsm) hcap).mono ?_
  rintro e w12 ⟨rfl, hR12, hg12⟩
  go_wp2
  refine ⟨rfl, .tuple #[], results_none rfl _ _ _, ?_⟩
  rw [EO.out]
  exact ⟨rfl, hR12, grown_trans HG11.out hg12⟩
end Go.Proofs.YtcfndcjbgalnpaaDoor.Hand
namespace Go.Proofs.YtcfndcjbgalnpaaDoor.Hand
open Go.RowKit Go.Proofs.YtcfndcjbgalnpaaDoorW.PrintWords Go.Proofs.YtcfndcjbgalnpaaDoorW.PrintLast
def moveL (L : List C5) (o len : Nat) (n : Int) (x : C5) : List C5 := if 0 < n then downL L o len (min n len).toNat x else upL L o len (min (-n) len).toNat x
def shiftG (r c : Nat) (L : List C5) (row col n : Int) (a2 : Int) (m : Bool) : List C5 :=
  if (isB r c row col && m) = true then mendRow c (moveL L (row.toNat * c + col.toNat) (c - col.toNat) n (blankC a2)) row.toNat else L
theorem splice_part {α : Type} {L : List α} {p o q k : Nat} (h1 : 0 < k → p = o) (h2 : q + k ≤ L.length) : splice L p ((L.drop q).take k) = splice L o ((L.drop q).take k) := splice_some (part_length L q k h2) h1
set_option maxHeartbeats 4000000 in
theorem shift_calls {w : World} {base g b r c : Nat} {L : List C5} (h : GridAt w base g b r c L) (row col d a0 a1 a2 : Int) (m : Bool) (hm : PB.cell_MayAttr.f a0 a1 a2 = some m) :
    Calls Tryd.prog 21 #[.pointer (some ⟨g, 0, none⟩), .int .i64 row, .int .i64 col, .int .i64 d, .agg #[.int .i64 a0, .int .i64 a1, .int .i64 a2]] w (fun e w' => e = .returned (.tuple #[]) ∧ RowAt w' b (shiftG r c L row col d a2 m) ∧ w.grownBy w' (some b)) := by
  have HG := Aside0.mk h
  have HM := Aside0.mk hm
  clear h hm
  have EO : Aside0 (shiftG r c L row col d a2 m = if (isB r c row col && m) = true then mendRow c (moveL L (row.toNat * c + col.toNat) (c - col.toNat) d (blankC a2)) row.toNat else L) := ⟨rfl⟩
  go_enter Tryd.func21, Tryd.ntmps21
  go_wp2_with ((with_reducible refine gate_dst (N := 9) rfl ?_); refine box_event ?hg (N := 9) ?hd (cs := #[.int .i64 a0, .int .i64 a1, .int .i64 a2]) (t := 23) ?hr ?_; (case hd => rfl); (case hg => rfl); (case hr => first | (go_simp; done) | (go_simp; rfl)); intro gb hg w3 hbox hb; have HX := Aside0.mk hbox; have HB3 := Aside0.mk hb; clear hbox hb hg)
  have HL5 := Aside0.mk (show MLive w base g b r c L gb a0 a1 a2 w3 from ⟨grown_of_none HB3.out, HG.out.below HB3.out, HX.out⟩)
  clear HX HB3 HG
  go_wp2_with fail
  refine (is_calls HL5.out.grid row col).mono ?_
  rintro e w6 ⟨rfl, rfl⟩
  cases hi : isB r c row col with
  | false =>
    go_wp2
    refine ⟨rfl, .tuple #[], results_none rfl _ _ _, ?_⟩
    rw [EO.out, hi, Bool.false_and, if_neg (by decide)]
    exact ⟨rfl, HL5.out.grid.row, HL5.out.grown⟩
  | true =>
  obtain ⟨x0, x1, x2⟩ := HL5.out.looks
  go_wp2_with fail
  refine (PB.cell_MayAttr.calls a0 a1 a2 m w6 HM.out).mono ?_
  rintro e w7 ⟨rfl, hb7⟩
  have HL7 := Aside0.mk (HL5.out.next hb7)
  clear hb7 HL5 x0 x1 x2
  cases m with
  | false =>
    go_wp2
    refine ⟨rfl, .tuple #[], results_none rfl _ _ _, ?_⟩
    rw [EO.out, Bool.and_false, if_neg (by decide)]
    exact ⟨rfl, HL7.out.grid.row, HL7.out.grown⟩
  | true =>
  rw [hi, Bool.true_and, if_pos rfl] at EO
  obtain ⟨p1, p2, p3, p4⟩ : 0 ≤ row ∧ row < r ∧ 0 ≤ col ∧ col < c := by simpa [isB] using hi
  obtain ⟨n, rfl⟩ := Int.eq_ofNat_of_zero_le p1
  obtain ⟨j, rfl⟩ := Int.eq_ofNat_of_zero_le p3
  have hn : n < r := by omega
  have hj : j < c := by omega
  simp only [Int.toNat_natCast] at EO
  have hle := place_le (c := c) hn
  rw [← HL7.out.grid.len] at hle
  have hsm := HL7.out.grid.small
  have hc1 := HL7.out.grid.c1
  have HLN := Aside0.mk HL7.out.grid.len
  have HR2 := Aside0.mk HL7.out.grid.r2
  have HC2 := Aside0.mk HL7.out.grid.c2
  have HR7 := Aside0.mk HL7.out.grid.row
  clear hi p1 p2 p3 p4
  obtain ⟨cap, k1, k2, hbase⟩ := HL7.out.base_
  have HB7 := Aside0.mk hbase
  clear hbase HL7
  obtain ⟨_, _, _, v1, v2, _⟩ := HB7.out.held
  go_wp2_with fail
  refine (row_calls v1 v2 n hn HLN.out k1 hsm HR2.out hc1 HC2.out).mono ?_
  rintro e w8 ⟨rfl, m8, hw8⟩
  have hb8 : Below w7.heap.size w7 w8 := by rw [hw8]; exact below_drawn _ m8
  clear hw8 v1 v2
  have HR8 := Aside0.mk (HR7.out.below hb8)
  have HB8 := Aside0.mk (HB7.out.next hb8)
  clear hb8 HR7 HB7
  have hcap : c ≤ cap - n * c := by omega
  generalize hcp : cap - n * c = cp at *
  have HCP := Aside0.mk hcp
  clear hcp
  obtain ⟨len, hlen⟩ : ∃ len, c - j = len := ⟨_, rfl⟩
  obtain ⟨cq, hcq⟩ : ∃ cq, cp - j = cq := ⟨_, rfl⟩
  obtain ⟨o, ho⟩ : ∃ o, n * c + j = o := ⟨_, rfl⟩
  have hlq : len ≤ cq := by omega
  have hl0 : 0 < len := by omega
  have hol : o + len ≤ L.length := by omega
  have hl2 : len ≤ 200 := by have := HC2.out; omega
  obtain ⟨p, hcut, _, hp⟩ := cut_some (b := b) (n := c) (cap := cp) (i := j) (o := n * c) (by omega) hcap
  obtain rfl : p = o := by have := hp hj; omega
  rw [hlen, hcq] at hcut
  rw [ho, hlen] at EO
  clear hp
  by_cases hd : 0 < d
  · obtain ⟨k, hk⟩ : ∃ k : Nat, min d len = k := ⟨(min d len).toNat, by omega⟩
    have hkl : k ≤ len := by omega
    have hmin : (if (len : Int) < d then (len : Int) else d) = (k : Int) := by omega
    rw [moveL, if_pos hd, hk, Int.toNat_natCast] at EO
    obtain ⟨p1, hcut1, hp0, hp1⟩ := cut_some (b := b) (n := len) (cap := cq) (i := k) (o := p) hkl hlq
    have hcut2 := fun W => cut_to0 (b := b) (n := len) (cap := cq) (i := k) (5 * p) hkl hlq W
    have HL1 : Aside0 ((splice L p1 ((L.drop p).take (min len (len - k)))).length = L.length) := ⟨splice_length _ _ _ (by rw [show min len (len - k) = len - k by omega, part_length L p (len - k) (by omega)]; omega)⟩
    have HLL : Aside0 ((splice (splice L p1 ((L.drop p).take (min len (len - k)))) p (List.replicate k (blankC a2))).length = L.length) := ⟨by rw [splice_length _ _ _ (by rw [List.length_replicate, HL1.out]; omega), HL1.out]⟩
    have EQ : Aside0 (splice (splice L p1 ((L.drop p).take (min len (len - k)))) p (List.replicate k (blankC a2)) = downL L p len k (blankC a2)) := ⟨by
      rw [show min len (len - k) = len - k by omega, downL, splice_part (o := p + k) (fun h => hp1 (by omega)) (by omega)]⟩
    rw [← EQ.out] at EO
    clear EQ
    have HK := Aside0.mk hk
    have HMIN := Aside0.mk hmin
    clear hk hmin
    go_upto_region 5 with fail
    rw [HMIN.out]
    clear HMIN HK hd
    go_wp2_with ((with_reducible refine gate_builtin (b := .copy) (xs := #[.tmp 34, .tmp 35]) rfl ?_); refine copy_row HR8.out HR8.out p1 (len - k) (cq - k) p len cq (by omega) hol (.tmp 34) (.tmp 35) rfl rfl rfl rfl rfl rfl ?_; intro w5 hR5 hG5; have HR5 := Aside0.mk hR5; have HB5 := Aside0.mk (HB8.out.wrote hR5 hG5); clear hR5 hG5)
    have HR8 := Aside0.mk (HR5.out.below (below_drew (Below.refl _ _)))
    have HLd := Aside0.mk (HB5.out.next (below_drew (Below.refl _ _))).held
    clear HR5 HB5 HB8
    have hkq : k ≤ cq := by omega
    go_region_held3 (fun w' => w'.cell? ⟨gb, 0, none⟩ = some (.int .i64 a0) ∧ w'.cell? ⟨gb, 1, none⟩ = some (.int .i64 a1) ∧ w'.cell? ⟨gb, 2, none⟩ = some (.int .i64 a2) ∧ w'.cell? ⟨g, 1, none⟩ = some (.int .i64 (c : Int)) ∧ w'.cell? ⟨g, 2, none⟩ = some (.slice (some ⟨b, 0, none⟩) L.length cap) ∧ MBase w g b r c L.length cap gb a0 a1 a2 w') (first | exact MHeld.wrote (by assumption) HRf.out hgf | exact MHeld.next (by assumption) hbc | exact HLd.out)
      (first
        | (go_at_call 14; refine (PB.cell_Blank.calls a0 a1 a2 32 0 0 a2 0 _ rfl).mono ?_; rintro e w9 ⟨rfl, hbc⟩; have HR10 := Aside0.mk (HR8.out.below hbc))
        | (go_at_call 41; refine (fill_calls (cap := cq) HR10.out p k (by rw [HL1.out]; omega) (by rw [HL1.out]; exact hsm) (blankC a2) (by omega)).mono ?_; rintro e w10 ⟨rfl, hRf, hgf⟩; have HRf := Aside0.mk hRf; clear hRf))
    have HH := Aside0.mk (show MHeld w g b r c L.length cap gb a0 a1 a2 _ by assumption)
    obtain ⟨_, _, _, v1, v2, _⟩ := HH.out
    clear HLd
    go_wp2_with fail
    refine (row_calls v1 v2 n hn HLN.out k1 hsm HR2.out hc1 HC2.out).mono ?_
    rintro e w21 ⟨rfl, m21, rfl⟩
    have HR21 := Aside0.mk (HRf.out.below (below_drawn _ m21))
    have HG21 := Aside0.mk (grown_below HH.out.base_.grown (below_drawn _ m21))
    rw [HCP.out]
    clear v1 v2 HRf HH
    go_wp2_with fail
    refine (mend_calls HR21.out (n * c) c hc1 (by rw [HLL.out]; exact hle) (by rw [HLL.out]; exact hsm) hcap).mono ?_
    rintro e w22 ⟨rfl, hR22, hg22⟩
    go_wp2
    refine ⟨rfl, .tuple #[], results_none rfl _ _ _, ?_⟩
    rw [EO.out]
    exact ⟨rfl, hR22, grown_trans HG21.out hg22⟩
  · obtain ⟨k, hk⟩ : ∃ k : Nat, min (-d) len = k := ⟨(min (-d) len).toNat, by omega⟩
    have hkl : k ≤ len := by omega
    rw [moveL, if_neg hd, hk, Int.toNat_natCast] at EO
    obtain ⟨p1, hcut1, hp0, hp1⟩ := cut_some (b := b) (n := len) (cap := cq) (i := k) (o := p) hkl hlq
    obtain ⟨q, hq⟩ : ∃ q, len - k = q := ⟨_, rfl⟩
    obtain ⟨p2, hcut2, hp2, hp3⟩ := cut_some (b := b) (n := len) (cap := cq) (i := q) (o := p) (by omega) hlq
    rw [show len - q = k by omega] at hcut2
    rw [hq] at hcut1
    have HL1 : Aside0 ((splice L p ((L.drop p1).take (min q len))).length = L.length) := ⟨splice_length _ _ _ (by rw [show min q len = q by omega, part_length L p1 q (by omega)]; omega)⟩
    have HLL : Aside0 ((splice (splice L p ((L.drop p1).take (min q len))) p2 (List.replicate k (blankC a2))).length = L.length) := ⟨by rw [splice_length _ _ _ (by rw [List.length_replicate, HL1.out]; omega), HL1.out]⟩
    have EQ : Aside0 (splice (splice L p ((L.drop p1).take (min q len))) p2 (List.replicate k (blankC a2)) = upL L p len k (blankC a2)) := ⟨by
      have e1 : (L.drop p1).take q = (L.drop (p + k)).take q := by
        rcases Nat.lt_or_ge k len with h | h
        · rw [hp1 h]
        · rw [show q = 0 by omega, List.take_zero, List.take_zero]
      rw [show min q len = q by omega, upL, hq, e1]
      exact splice_some (List.length_replicate ..) (fun h => hp3 (by omega))⟩
    rw [← EQ.out] at EO
    clear EQ
    have hneg : (-(if d < -(len : Int) then -(len : Int) else d)) = (k : Int) := by omega
    go_upto_region 8 with fail
    clear hneg hk hd
    generalize (if d < -(len : Int) then -(len : Int) else d) = dd
    go_wp2_with ((with_reducible refine gate_builtin (b := .copy) (xs := #[.tmp 49, .tmp 52]) rfl ?_); refine copy_row HR8.out HR8.out p len cq p1 q (cq - k) hol (by omega) (.tmp 49) (.tmp 52) rfl rfl rfl rfl rfl rfl ?_; intro w5 hR5 hG5; have HR5 := Aside0.mk hR5; have HB5 := Aside0.mk (HB8.out.wrote hR5 hG5); clear hR5 hG5)
    have HR8 := Aside0.mk (HR5.out.below (below_drew (Below.refl _ _)))
    have HLd := Aside0.mk (HB5.out.next (below_drew (Below.refl _ _))).held
    clear HR5 HB5 HB8
    have hqq : q ≤ cq := by omega
    have hsub2 : (len : Int) - (k : Int) = (q : Int) := by omega
    have hcut3 : ∀ W : World, (Instr.slice 49 (.slice (some ⟨b, 5 * p, none⟩) len cq) (some (.int .i64 ((len : Int) - (k : Int)))) none none).run Tryd.prog W = .ok (.slice (some ⟨b, 5 * p2, none⟩) k (cq - q)) W := fun W => by rw [hsub2]; exact hcut2 W
    have hsub : IntKind.i64.wrap ((len : Int) - (k : Int)) = (len : Int) - (k : Int) := by rw [i64_w]; unfold wrap64; omega
    clear hsub2 hcut2
    go_region_held3 (fun w' => w'.cell? ⟨gb, 0, none⟩ = some (.int .i64 a0) ∧ w'.cell? ⟨gb, 1, none⟩ = some (.int .i64 a1) ∧ w'.cell? ⟨gb, 2, none⟩ = some (.int .i64 a2) ∧ w'.cell? ⟨g, 1, none⟩ = some (.int .i64 (c : Int)) ∧ w'.cell? ⟨g, 2, none⟩ = some (.slice (some ⟨b, 0, none⟩) L.length cap) ∧ MBase w g b r c L.length cap gb a0 a1 a2 w') (first | exact MHeld.wrote (by assumption) HRf.out hgf | exact MHeld.next (by assumption) hbc | exact HLd.out)
      (first
        | (go_at_call 14; refine (PB.cell_Blank.calls a0 a1 a2 32 0 0 a2 0 _ rfl).mono ?_; rintro e w9 ⟨rfl, hbc⟩; have HR10 := Aside0.mk (HR8.out.below hbc))
        | (go_at_call 41; refine (fill_calls (cap := cq - q) HR10.out p2 k (by rw [HL1.out]; omega) (by rw [HL1.out]; exact hsm) (blankC a2) (by omega)).mono ?_; rintro e w10 ⟨rfl, hRf, hgf⟩; have HRf := Aside0.mk hRf; clear hRf))
    have HH := Aside0.mk (show MHeld w g b r c L.length cap gb a0 a1 a2 _ by assumption)
    obtain ⟨_, _, _, v1, v2, _⟩ := HH.out
    clear HLd
    go_wp2_with fail
    refine (row_calls v1 v2 n hn HLN.out k1 hsm HR2.out hc1 HC2.out).mono ?_
    rintro e w21 ⟨rfl, m21, rfl⟩
    have HR21 := Aside0.mk (HRf.out.below (below_drawn _ m21))
    have HG21 := Aside0.mk (grown_below HH.out.base_.grown (below_drawn _ m21))
    rw [HCP.out]
    clear v1 v2 HRf HH
    go_wp2_with fail
    refine (mend_calls HR21.out (n * c) c hc1 (by rw [HLL.out]; exact hle) (by rw [HLL.out]; exact hsm) hcap).mono ?_
    rintro e w22 ⟨rfl, hR22, hg22⟩
    go_wp2
    refine ⟨rfl, .tuple #[], results_none rfl _ _ _, ?_⟩
    rw [EO.out]
    exact ⟨rfl, hR22, grown_trans HG21.out hg22⟩
end Go.Proofs.YtcfndcjbgalnpaaDoor.Hand
namespace Go.Proofs.YtcfndcjbgalnpaaDoor.Hand
theorem mendL_get (l : List C5) (i : Nat) (h : i < l.length) : (mendL l)[i]? = some (mendC l i) := by
  simp [mendL, mendTo, h]
theorem mendC_keep {l : List C5} {i : Nat} (h : aloneL l i = false) : mendC l i = l.getD i z5 := by
  unfold mendC
  rw [if_neg (by rw [h]; decide)]
theorem aloneL_narrow {l : List C5} {i : Nat} (h1 : (l.getD i z5).w ≠ 1) (h2 : (l.getD i z5).w ≠ 2) : aloneL l i = false := by
  unfold aloneL
  rw [beq_eq_false_iff_ne.2 h1, beq_eq_false_iff_ne.2 h2]
  rfl
theorem mendL_narrow {l : List C5} (h : ∀ c ∈ l, c.w = 0) : mendL l = l := by
  apply List.ext_getElem?
  intro i
  rcases Nat.lt_or_ge i l.length with hi | hi
  · have hg : l.getD i z5 = l[i] := by rw [List.getD_eq_getElem?_getD, List.getElem?_eq_getElem hi]; rfl
    have hw : (l.getD i z5).w = 0 := by rw [hg]; exact h _ (List.getElem_mem hi)
    rw [mendL_get l i hi, mendC_keep (aloneL_narrow (by rw [hw]; decide) (by rw [hw]; decide)), hg, List.getElem?_eq_getElem hi]
  · rw [List.getElem?_eq_none (by rw [mendL_length]; exact hi), List.getElem?_eq_none hi]
theorem splice_get_in {α : Type} (L M : List α) (o j : Nat) (ho : o + M.length ≤ L.length) (hj : j < M.length) : (splice L o M)[o + j]? = M[j]? := by
  unfold splice
  have h : (L.take o).length = o := by rw [List.length_take]; omega
  rw [List.getElem?_append_right (by omega), h, Nat.add_sub_cancel_left, List.getElem?_append_left hj]
theorem splice_get_out {α : Type} (L M : List α) (o k : Nat) (ho : o + M.length ≤ L.length) (hk : k < o ∨ o + M.length ≤ k) : (splice L o M)[k]? = L[k]? := by
  unfold splice
  have h : (L.take o).length = o := by rw [List.length_take]; omega
  rcases hk with hk | hk
  · rw [List.getElem?_append_left (by omega), List.getElem?_take_of_lt hk]
  · rw [List.getElem?_append_right (by omega), h, List.getElem?_append_right (by omega), List.getElem?_drop]
    congr 1
    omega
end Go.Proofs.YtcfndcjbgalnpaaDoor.Hand
namespace Go.Proofs.YtcfndcjbgalnpaaDoor.Hand
theorem getD_mendL {l : List C5} {i : Nat} (h : i < l.length) : (mendL l).getD i z5 = mendC l i := by
  rw [List.getD_eq_getElem?_getD, mendL_get l i h]
  rfl
end Go.Proofs.YtcfndcjbgalnpaaDoor.Hand
namespace Go.Proofs.YtcfndcjbgalnpaaDoor.Hand
theorem downL_get {L : List C5} {o len k i : Nat} (x : C5) (h : o + len ≤ L.length) (hk : k ≤ len) :
    (downL L o len k x)[i]? = if i < o then L[i]? else if i < o + k then some x else if i < o + len then L[i - k]? else L[i]? := by
  have h1 : ((L.drop o).take (len - k)).length = len - k := part_length L o (len - k) (by omega)
  have h2 : (splice L (o + k) ((L.drop o).take (len - k))).length = L.length := splice_length _ _ _ (by omega)
  unfold downL
  by_cases c1 : i < o
  · rw [if_pos c1, splice_get_out _ _ _ _ (by rw [List.length_replicate]; omega) (Or.inl c1), splice_get_out _ _ _ _ (by omega) (Or.inl (by omega))]
  rw [if_neg c1]
  by_cases c2 : i < o + k
  · rw [if_pos c2]
    obtain ⟨j, rfl⟩ : ∃ j, i = o + j := ⟨i - o, by omega⟩
    rw [splice_get_in _ _ _ _ (by rw [List.length_replicate]; omega) (by rw [List.length_replicate]; omega), List.getElem?_replicate, if_pos (by omega)]
  rw [if_neg c2, splice_get_out _ _ _ _ (by rw [List.length_replicate]; omega) (Or.inr (by rw [List.length_replicate]; omega))]
  by_cases c3 : i < o + len
  · rw [if_pos c3]
    obtain ⟨j, rfl⟩ : ∃ j, i = o + k + j := ⟨i - (o + k), by omega⟩
    rw [splice_get_in _ _ _ _ (by omega) (by omega), List.getElem?_take_of_lt (by omega), List.getElem?_drop, show o + k + j - k = o + j by omega]
  · rw [if_neg c3, splice_get_out _ _ _ _ (by omega) (Or.inr (by omega))]
theorem upL_get {L : List C5} {o len k i : Nat} (x : C5) (h : o + len ≤ L.length) (hk : k ≤ len) :
    (upL L o len k x)[i]? = if i < o then L[i]? else if i < o + (len - k) then L[i + k]? else if i < o + len then some x else L[i]? := by
  have h1 : ((L.drop (o + k)).take (len - k)).length = len - k := part_length L (o + k) (len - k) (by omega)
  have h2 : (splice L o ((L.drop (o + k)).take (len - k))).length = L.length := splice_length _ _ _ (by omega)
  unfold upL
  by_cases c1 : i < o
  · rw [if_pos c1, splice_get_out _ _ _ _ (by rw [List.length_replicate]; omega) (Or.inl (by omega)), splice_get_out _ _ _ _ (by omega) (Or.inl c1)]
  rw [if_neg c1]
  by_cases c2 : i < o + (len - k)
  · rw [if_pos c2, splice_get_out _ _ _ _ (by rw [List.length_replicate]; omega) (Or.inl c2)]
    obtain ⟨j, rfl⟩ : ∃ j, i = o + j := ⟨i - o, by omega⟩
    rw [splice_get_in _ _ _ _ (by omega) (by omega), List.getElem?_take_of_lt (by omega), List.getElem?_drop, show o + k + j = o + j + k by omega]
  rw [if_neg c2]
  by_cases c3 : i < o + len
  · rw [if_pos c3]
    obtain ⟨j, rfl⟩ : ∃ j, i = o + (len - k) + j := ⟨i - (o + (len - k)), by omega⟩
    rw [splice_get_in _ _ _ _ (by rw [List.length_replicate]; omega) (by rw [List.length_replicate]; omega), List.getElem?_replicate, if_pos (by omega)]
  · rw [if_neg c3, splice_get_out _ _ _ _ (by rw [List.length_replicate]; omega) (Or.inr (by rw [List.length_replicate]; omega)), splice_get_out _ _ _ _ (by omega) (Or.inr (by omega))]
theorem splice_self {α : Type} (L : List α) (o c : Nat) : splice L o ((L.drop o).take c) = L := by
  unfold splice
  rcases Nat.lt_or_ge o L.length with h | h
  · have e : L.take o ++ (L.drop o).take c = L.take (o + ((L.drop o).take c).length) := by
      rw [List.length_take, List.length_drop, List.take_add]
      congr 1
      rw [List.take_eq_take_iff, List.length_drop]
      omega
    rw [← List.append_assoc, e, List.take_append_drop]
  · rw [List.drop_of_length_le h, List.take_nil, List.nil_append, List.length_nil, Nat.add_zero, List.take_append_drop]
def Narrow (L : List C5) : Prop := ∀ (i : Nat) (c : C5), L[i]? = some c → c.w = 0
theorem Narrow.mem {L : List C5} (h : Narrow L) : ∀ c ∈ L, c.w = 0 := fun c hc => by
  obtain ⟨i, hi⟩ := List.mem_iff_getElem?.1 hc
  exact h i c hi
theorem Narrow.mendRow {L : List C5} (h : Narrow L) (c n : Nat) : mendRow c L n = L := by
  have hn : mendL ((L.drop (n * c)).take c) = (L.drop (n * c)).take c := mendL_narrow fun x hx => h.mem x (List.mem_of_mem_drop (List.mem_of_mem_take hx))
  unfold Hand.mendRow
  rw [hn]
  exact splice_self L (n * c) c
end Go.Proofs.YtcfndcjbgalnpaaDoor.Hand
namespace Go.Proofs.YtcfndcjbgalnpaaDoor.Hand
open Go.RowKit Go.Proofs.YtcfndcjbgalnpaaDoorW.PrintWords Go.Proofs.YtcfndcjbgalnpaaDoorW.PrintLast
structure TLive (w : World) (g b r c : Nat) (L : List C5) (g2 b2 r2 c2 : Nat) (M : List C5) (W : World) : Prop where
  below : Below w.heap.size w W
  grid : GridAt W w.heap.size g b r c L
  was : GridAt W w.heap.size g2 b2 r2 c2 M
  gg : g ≠ g2
  bb : b ≠ b2
section
variable {w W W' : World} {g b r c g2 b2 r2 c2 : Nat} {L L' M : List C5}
end
@[reducible] def BHeld (x : C5) (gx : Nat) (W : World) : Prop :=
  W.cell? ⟨gx, 0, none⟩ = some (.int .i32 x.r) ∧ W.cell? ⟨gx, 1, none⟩ = some (.int .i64 x.f) ∧ W.cell? ⟨gx, 2, none⟩ = some (.int .i64 x.g) ∧ W.cell? ⟨gx, 3, none⟩ = some (.int .i64 x.b) ∧ W.cell? ⟨gx, 4, none⟩ = some (.int .i64 x.w)
@[reducible] def boxO (x : C5) : Obj := .cells #[.int .i32 x.r, .int .i64 x.f, .int .i64 x.g, .int .i64 x.b, .int .i64 x.w] 32 (0, 0)
end Go.Proofs.YtcfndcjbgalnpaaDoor.Hand
namespace Go.Proofs.YtcfndcjbgalnpaaDoor.Hand
open Go.RowKit Go.Proofs.YtcfndcjbgalnpaaDoorW.PrintWords Go.Proofs.YtcfndcjbgalnpaaDoorW.PrintLast
def scrollOk (r : Nat) (top bot : Int) (m : Bool) : Bool := decide (0 ≤ top ∧ top < r) && decide (0 ≤ bot ∧ bot < r) && decide (top ≤ bot) && m
def scrollL (c : Nat) (L : List C5) (t h : Nat) (d : Int) (x : C5) : List C5 :=
  if 0 < d then upL L (t * c) (h * c) ((min d h).toNat * c) x else downL L (t * c) (h * c) ((min (-d) h).toNat * c) x
def scrollG (r c : Nat) (L : List C5) (top bot d : Int) (a2 : Int) (m : Bool) : List C5 :=
  if scrollOk r top bot m = true then scrollL c L top.toNat (bot + 1 - top).toNat d (blankC a2) else L
set_option maxHeartbeats 4000000 in
theorem scroll_calls {w : World} {base g b r c : Nat} {L : List C5} (h : GridAt w base g b r c L) (top bot d a0 a1 a2 : Int) (m : Bool) (hm : PB.cell_MayAttr.f a0 a1 a2 = some m) :
    Calls Tryd.prog 20 #[.pointer (some ⟨g, 0, none⟩), .int .i64 top, .int .i64 bot, .int .i64 d, .agg #[.int .i64 a0, .int .i64 a1, .int .i64 a2]] w (fun e w' => e = .returned (.tuple #[]) ∧ RowAt w' b (scrollG r c L top bot d a2 m) ∧ w.grownBy w' (some b)) := by
  have HG := Aside0.mk h
  have HM := Aside0.mk hm
  clear h hm
  have EO : Aside0 (scrollG r c L top bot d a2 m = if (decide (0 ≤ top ∧ top < r) && decide (0 ≤ bot ∧ bot < r) && decide (top ≤ bot) && m) = true then scrollL c L top.toNat (bot + 1 - top).toNat d (blankC a2) else L) := ⟨rfl⟩
  go_enter Tryd.func20, Tryd.ntmps20
  go_wp2_with ((with_reducible refine gate_dst (N := 9) rfl ?_); refine box_event ?hg (N := 9) ?hd (cs := #[.int .i64 a0, .int .i64 a1, .int .i64 a2]) (t := 23) ?hr ?_; (case hd => rfl); (case hg => rfl); (case hr => first | (go_simp; done) | (go_simp; rfl)); intro gb hg w3 hbox hb; have HX := Aside0.mk hbox; have HB3 := Aside0.mk hb; clear hbox hb hg)
  have HL5 := Aside0.mk (show MLive w base g b r c L gb a0 a1 a2 w3 from ⟨grown_of_none HB3.out, HG.out.below HB3.out, HX.out⟩)
  clear HX HB3 HG
  go_wp2_with fail
  refine (is_calls HL5.out.grid top 0).mono ?_
  rintro e w6 ⟨rfl, rfl⟩
  rw [isB_zero HL5.out.grid.c1]
  by_cases htop : 0 ≤ top ∧ top < r
  case neg =>
    rw [decide_eq_false htop] at *
    go_wp2
    refine ⟨rfl, .tuple #[], results_none rfl _ _ _, ?_⟩
    rw [EO.out, Bool.false_and, Bool.false_and, Bool.false_and, if_neg (by decide)]
    exact ⟨rfl, HL5.out.grid.row, HL5.out.grown⟩
  rw [decide_eq_true htop] at *
  go_wp2_with fail
  refine (is_calls HL5.out.grid bot 0).mono ?_
  rintro e w5 ⟨rfl, rfl⟩
  rw [isB_zero HL5.out.grid.c1]
  by_cases hbot : 0 ≤ bot ∧ bot < r
  case neg =>
    rw [decide_eq_false hbot] at *
    go_wp2
    refine ⟨rfl, .tuple #[], results_none rfl _ _ _, ?_⟩
    rw [EO.out, Bool.and_false, Bool.false_and, Bool.false_and, if_neg (by decide)]
    exact ⟨rfl, HL5.out.grid.row, HL5.out.grown⟩
  rw [decide_eq_true hbot] at *
  by_cases htb : top ≤ bot
  case neg =>
    rw [decide_eq_false htb] at *
    go_wp2
    refine ⟨rfl, .tuple #[], results_none rfl _ _ _, ?_⟩
    rw [EO.out, Bool.and_false, Bool.false_and, if_neg (by decide)]
    exact ⟨rfl, HL5.out.grid.row, HL5.out.grown⟩
  rw [decide_eq_true htb] at *
  obtain ⟨x0, x1, x2⟩ := HL5.out.looks
  go_wp2_with fail
  refine (PB.cell_MayAttr.calls a0 a1 a2 m w5 HM.out).mono ?_
  rintro e w7 ⟨rfl, hb7⟩
  have HL7 := Aside0.mk (HL5.out.next hb7)
  clear hb7 HL5 x0 x1 x2
  cases m with
  | false =>
    go_wp2
    refine ⟨rfl, .tuple #[], results_none rfl _ _ _, ?_⟩
    rw [EO.out, Bool.and_false, if_neg (by decide)]
    exact ⟨rfl, HL7.out.grid.row, HL7.out.grown⟩
  | true =>
  rw [Bool.true_and, Bool.true_and, Bool.true_and, if_pos rfl] at EO
  obtain ⟨t, rfl⟩ := Int.eq_ofNat_of_zero_le htop.1
  obtain ⟨bt, rfl⟩ := Int.eq_ofNat_of_zero_le hbot.1
  have htr : t < r := by omega
  have hbr : bt < r := by omega
  have htb2 : t ≤ bt := by omega
  obtain ⟨h, hh⟩ : ∃ h : Nat, bt + 1 - t = h := ⟨_, rfl⟩
  rw [show ((bt : Int) + 1 - (t : Int)).toNat = h by omega, Int.toNat_natCast] at EO
  have hle := place_le (c := c) hbr
  rw [← HL7.out.grid.len] at hle
  have hsm := HL7.out.grid.small
  have hc1 := HL7.out.grid.c1
  have HLN := Aside0.mk HL7.out.grid.len
  have hr2 := HL7.out.grid.r2
  have hc2 := HL7.out.grid.c2
  have HR7 := Aside0.mk HL7.out.grid.row
  clear htop hbot htb
  obtain ⟨cap, k1, k2, hbase⟩ := HL7.out.base_
  have HB7 := Aside0.mk hbase
  clear hbase HL7
  obtain ⟨o, ho⟩ : ∃ o, t * c = o := ⟨_, rfl⟩
  obtain ⟨len, hlen⟩ : ∃ len, h * c = len := ⟨_, rfl⟩
  obtain ⟨hi, hhi⟩ : ∃ hi, bt * c + c = hi := ⟨_, rfl⟩
  have hsum : o + len = hi := by
    rw [← ho, ← hlen, ← hhi, ← Nat.add_mul, show t + h = bt + 1 by omega, Nat.succ_mul]
  have hl0 : 0 < len := by rw [← hlen]; exact Nat.mul_pos (by omega) hc1
  have hw1 := wrap_mul ho (by omega)
  have hw2 : IntKind.i64.wrap (((bt : Int) + 1) * (c : Int)) = (hi : Int) := wrap_mul (a := bt + 1) (by rw [Nat.succ_mul, hhi]) (by omega)
  rw [hhi] at hle
  have hcut := fun W => cut_row0 (b := b) (n := L.length) (cap := cap) (lo := o) (hi := hi) (by omega) hle k1 (by omega) W
  rw [show hi - o = len by omega] at hcut
  obtain ⟨cq, hcq⟩ : ∃ cq, cap - o = cq := ⟨_, rfl⟩
  rw [hcq] at hcut
  have hlq : len ≤ cq := by omega
  have hol : o + len ≤ L.length := by omega
  rw [scrollL, ho, hlen] at EO
  have HO := Aside0.mk ho
  have HLE := Aside0.mk hlen
  clear ho hlen hhi hcq hsum
  obtain ⟨_, _, _, v1, v2, _⟩ := HB7.out.held
  have z1 : w7.cell? ⟨g, 1, none⟩ = some (.int .i64 (c : Int)) := v1
  clear v1
  go_wp2
  go_quiet (fail)
  have HR8 := Aside0.mk (HR7.out.below (below_drawn _ nq))
  have HB8 := Aside0.mk (HB7.out.next (below_drawn _ nq))
  clear hw1 hw2 hcut HR7 HB7 z1 v2
  generalize w7.drewN nq = w8 at *
  have z1 : w8.cell? ⟨g, 1, none⟩ = some (.int .i64 (c : Int)) := HB8.out.held.2.2.2.1
  go_upto_region 4 with fail
  by_cases hd : 0 < d
  · obtain ⟨kk, hkk⟩ : ∃ kk : Nat, min d h = kk := ⟨(min d h).toNat, by omega⟩
    have hE : (if (bt : Int) + 1 - (t : Int) < (if d < (t : Int) - (bt : Int) - 1 then (t : Int) - (bt : Int) - 1 else d) then (bt : Int) + 1 - (t : Int) else if d < (t : Int) - (bt : Int) - 1 then (t : Int) - (bt : Int) - 1 else d) = (kk : Int) := by
      rw [if_neg (show ¬ d < (t : Int) - (bt : Int) - 1 by omega)]
      split <;> omega
    rw [hE]
    rw [if_pos hd, hkk, Int.toNat_natCast] at EO
    have hk1 : 1 ≤ kk := by omega
    have hk2 : kk ≤ h := by omega
    obtain ⟨k, hk⟩ : ∃ k, kk * c = k := ⟨_, rfl⟩
    have hkl : k ≤ len := by rw [← hk, ← HLE.out]; exact Nat.mul_le_mul_right c hk2
    have hk0 : 0 < k := by rw [← hk]; exact Nat.mul_pos hk1 hc1
    have hW : wrap64 ((kk : Int) * (c : Int)) = (k : Int) := by
      have := wrap_mul hk (by omega)
      rwa [i64_w] at this
    rw [hW]
    rw [hk] at EO
    generalize (if d < (t : Int) - (bt : Int) - 1 then (t : Int) - (bt : Int) - 1 else d) = dd
    clear hW hE hkk hd hk hk1 hk2
    obtain ⟨p1, hcut1, hp0, hp1⟩ := cut_some (b := b) (n := len) (cap := cq) (i := k) (o := o) hkl hlq
    obtain ⟨q, hq⟩ : ∃ q, len - k = q := ⟨_, rfl⟩
    obtain ⟨p2, hcut2, hp2, hp3⟩ := cut_some (b := b) (n := len) (cap := cq) (i := q) (o := o) (by omega) hlq
    rw [show len - q = k by omega] at hcut2
    rw [hq] at hcut1
    have HL1 : Aside0 ((splice L o ((L.drop p1).take (min q len))).length = L.length) := ⟨splice_length _ _ _ (by rw [show min q len = q by omega, part_length L p1 q (by omega)]; omega)⟩
    have EQ : Aside0 (splice (splice L o ((L.drop p1).take (min q len))) p2 (List.replicate k (blankC a2)) = upL L o len k (blankC a2)) := ⟨by
      have e1 : (L.drop p1).take q = (L.drop (o + k)).take q := by
        rcases Nat.lt_or_ge k len with h | h
        · rw [hp1 h]
        · rw [show q = 0 by omega, List.take_zero, List.take_zero]
      rw [show min q len = q by omega, upL, hq, e1]
      exact splice_some (List.length_replicate ..) (fun h => hp3 (by omega))⟩
    rw [← EQ.out] at EO
    clear EQ
    go_wp2_with ((with_reducible refine gate_builtin (b := .copy) (xs := #[.tmp 67, .tmp 70]) rfl ?_); refine copy_row HR8.out HR8.out o len cq p1 q (cq - k) hol (by omega) (.tmp 67) (.tmp 70) rfl rfl rfl rfl rfl rfl ?_; intro w5 hR5 hG5; have HR5 := Aside0.mk hR5; have HB5 := Aside0.mk (HB8.out.wrote hR5 hG5); clear hR5 hG5)
    have HR8 := Aside0.mk (HR5.out.below (below_drew (Below.refl _ _)))
    have HLd := Aside0.mk (HB5.out.next (below_drew (Below.refl _ _))).held
    clear HR5 HB5 HB8 z1
    have hqq : q ≤ cq := by omega
    have hsub2 : (len : Int) - (k : Int) = (q : Int) := by omega
    have hcut3 : ∀ W : World, (Instr.slice 49 (.slice (some ⟨b, 5 * o, none⟩) len cq) (some (.int .i64 ((len : Int) - (k : Int)))) none none).run Tryd.prog W = .ok (.slice (some ⟨b, 5 * p2, none⟩) k (cq - q)) W := fun W => by rw [hsub2]; exact hcut2 W
    have hsub : IntKind.i64.wrap ((len : Int) - (k : Int)) = (len : Int) - (k : Int) := by rw [i64_w]; unfold wrap64; omega
    clear hsub2 hcut2
    go_region_held3 (fun w' => w'.cell? ⟨gb, 0, none⟩ = some (.int .i64 a0) ∧ w'.cell? ⟨gb, 1, none⟩ = some (.int .i64 a1) ∧ w'.cell? ⟨gb, 2, none⟩ = some (.int .i64 a2) ∧ w'.cell? ⟨g, 1, none⟩ = some (.int .i64 (c : Int)) ∧ w'.cell? ⟨g, 2, none⟩ = some (.slice (some ⟨b, 0, none⟩) L.length cap) ∧ MBase w g b r c L.length cap gb a0 a1 a2 w') (first | exact MHeld.wrote (by assumption) HRf.out hgf | exact MHeld.next (by assumption) hbc | exact HLd.out)
      (first
        | (go_at_call 14; refine (PB.cell_Blank.calls a0 a1 a2 32 0 0 a2 0 _ rfl).mono ?_; rintro e w9 ⟨rfl, hbc⟩; have HR10 := Aside0.mk (HR8.out.below hbc))
        | (go_at_call 41; refine (fill_calls (cap := cq - q) HR10.out p2 k (by rw [HL1.out]; omega) (by rw [HL1.out]; exact hsm) (blankC a2) (by omega)).mono ?_; rintro e w10 ⟨rfl, hRf, hgf⟩; have HRf := Aside0.mk hRf; clear hRf))
    have HH := Aside0.mk (show MHeld w g b r c L.length cap gb a0 a1 a2 _ by assumption)
    go_wp2
    refine ⟨rfl, .tuple #[], results_none rfl _ _ _, ?_⟩
    rw [EO.out]
    exact ⟨rfl, HRf.out, HH.out.base_.grown⟩
  · obtain ⟨kk, hkk⟩ : ∃ kk : Nat, min (-d) h = kk := ⟨(min (-d) h).toNat, by omega⟩
    have hE : (if (bt : Int) + 1 - (t : Int) < (if d < (t : Int) - (bt : Int) - 1 then (t : Int) - (bt : Int) - 1 else d) then (bt : Int) + 1 - (t : Int) else if d < (t : Int) - (bt : Int) - 1 then (t : Int) - (bt : Int) - 1 else d) = -(kk : Int) := by
      split <;> split <;> omega
    rw [hE]
    rw [if_neg hd, hkk, Int.toNat_natCast] at EO
    have hk2 : kk ≤ h := by omega
    obtain ⟨k, hk⟩ : ∃ k, kk * c = k := ⟨_, rfl⟩
    have hkl : k ≤ len := by rw [← hk, ← HLE.out]; exact Nat.mul_le_mul_right c hk2
    have hW : wrap64 (-(kk : Int) * (c : Int)) = -(k : Int) := by
      rw [Int.neg_mul, ← Int.natCast_mul, hk]
      unfold wrap64
      omega
    rw [hW]
    rw [hk] at EO
    generalize (if d < (t : Int) - (bt : Int) - 1 then (t : Int) - (bt : Int) - 1 else d) = dd
    clear hW hE hkk hd hk hk2
    obtain ⟨p1, hcut1, hp0, hp1⟩ := cut_some (b := b) (n := len) (cap := cq) (i := k) (o := o) hkl hlq
    have hcut2 := fun W => cut_to0 (b := b) (n := len) (cap := cq) (i := k) (5 * o) hkl hlq W
    have HL1 : Aside0 ((splice L p1 ((L.drop o).take (min len (len - k)))).length = L.length) := ⟨splice_length _ _ _ (by rw [show min len (len - k) = len - k by omega, part_length L o (len - k) (by omega)]; omega)⟩
    have EQ : Aside0 (splice (splice L p1 ((L.drop o).take (min len (len - k)))) o (List.replicate k (blankC a2)) = downL L o len k (blankC a2)) := ⟨by
      rw [show min len (len - k) = len - k by omega, downL, splice_part (o := o + k) (fun h => hp1 (by omega)) (by omega)]⟩
    rw [← EQ.out] at EO
    clear EQ
    have hkq : k ≤ cq := by omega
    go_wp2_with ((with_reducible refine gate_builtin (b := .copy) (xs := #[.tmp 84, .tmp 85]) rfl ?_); refine copy_row HR8.out HR8.out p1 (len - k) (cq - k) o len cq (by omega) hol (.tmp 84) (.tmp 85) rfl rfl rfl rfl rfl rfl ?_; intro w5 hR5 hG5; have HR5 := Aside0.mk hR5; have HB5 := Aside0.mk (HB8.out.wrote hR5 hG5); clear hR5 hG5)
    have HR8 := Aside0.mk (HR5.out.below (below_drew (Below.refl _ _)))
    have HLd := Aside0.mk (HB5.out.next (below_drew (Below.refl _ _))).held
    clear HR5 HB5 HB8 z1
    have hn1 : IntKind.i64.wrap (-(-(k : Int))) = (k : Int) := by rw [i64_w]; unfold wrap64; omega
    have hn2 : IntKind.i64.wrap (k : Int) = (k : Int) := by rw [i64_w]; unfold wrap64; omega
    go_region_held3 (fun w' => w'.cell? ⟨gb, 0, none⟩ = some (.int .i64 a0) ∧ w'.cell? ⟨gb, 1, none⟩ = some (.int .i64 a1) ∧ w'.cell? ⟨gb, 2, none⟩ = some (.int .i64 a2) ∧ w'.cell? ⟨g, 1, none⟩ = some (.int .i64 (c : Int)) ∧ w'.cell? ⟨g, 2, none⟩ = some (.slice (some ⟨b, 0, none⟩) L.length cap) ∧ MBase w g b r c L.length cap gb a0 a1 a2 w') (first | exact MHeld.wrote (by assumption) HRf.out hgf | exact MHeld.next (by assumption) hbc | exact HLd.out)
      (first
        | (go_at_call 14; refine (PB.cell_Blank.calls a0 a1 a2 32 0 0 a2 0 _ rfl).mono ?_; rintro e w9 ⟨rfl, hbc⟩; have HR10 := Aside0.mk (HR8.out.below hbc))
        | (go_at_call 41; refine (fill_calls (cap := cq) HR10.out o k (by rw [HL1.out]; omega) (by rw [HL1.out]; exact hsm) (blankC a2) (by omega)).mono ?_; rintro e w10 ⟨rfl, hRf, hgf⟩; have HRf := Aside0.mk hRf; clear hRf))
    have HH := Aside0.mk (show MHeld w g b r c L.length cap gb a0 a1 a2 _ by assumption)
    go_wp2
    refine ⟨rfl, .tuple #[], results_none rfl _ _ _, ?_⟩
    rw [EO.out]
    exact ⟨rfl, HRf.out, HH.out.base_.grown⟩
end Go.Proofs.YtcfndcjbgalnpaaDoor.Hand
namespace Go.Proofs.YtcfndcjbgalnpaaDoor.Hand
open Go.RowKit Go.Proofs.YtcfndcjbgalnpaaDoorW.PrintWords
structure SLive (w : World) (g b r c : Nat) (L : List C5) (g2 b2 r2 c2 : Nat) (M : List C5) (gk : Nat) (y : C5) (W : World) : Prop where
  live : TLive w g b r c L g2 b2 r2 c2 M W
  box : W.heap[gk]? = some (boxO y)
  kb : b ≠ gk
section
variable {w W W' : World} {g b r c g2 b2 r2 c2 gk : Nat} {y : C5} {L L' M : List C5}
end
end Go.Proofs.YtcfndcjbgalnpaaDoor.Hand
namespace Go.Proofs.YtcfndcjbgalnpaaDoor.Hand
open Go.RowKit Go.Proofs.YtcfndcjbgalnpaaDoorW.PrintWords Go.Proofs.YtcfndcjbgalnpaaDoorW.PrintLast
def resStep (c c2 : Nat) (L M : List C5) (k : Nat) : List C5 := mendRow c2 (splice M (k * c2) ((L.drop (k * c)).take (min c c2))) k
def resTo (c r2 c2 : Nat) (L : List C5) : Nat → List C5
  | 0 => List.replicate (r2 * c2) (blankC 0)
  | k + 1 => resStep c c2 L (resTo c r2 c2 L k) k
theorem resStep_length {r c r2 c2 k : Nat} {L M : List C5} (hl : L.length = r * c) (hM : M.length = r2 * c2) (h1 : k < r) (h2 : k < r2) : (resStep c c2 L M k).length = r2 * c2 := by
  have e1 := place_le (c := c) h1
  have e2 := place_le (c := c2) h2
  have e3 : ((L.drop (k * c)).take (min c c2)).length = min c c2 := part_length L (k * c) (min c c2) (by omega)
  have e4 : (splice M (k * c2) ((L.drop (k * c)).take (min c c2))).length = M.length := splice_length _ _ _ (by omega)
  unfold resStep
  rw [mendRow_length (e4.trans hM) h2, e4, hM]
theorem resTo_length {r c r2 c2 : Nat} {L : List C5} (hl : L.length = r * c) : ∀ k, k ≤ min r r2 → (resTo c r2 c2 L k).length = r2 * c2
  | 0, _ => List.length_replicate ..
  | k + 1, h => resStep_length hl (resTo_length hl k (by omega)) (by omega) (by omega)
theorem info_grid : (Tryd.prog.info? 66).map (·.size) = some 3 := by kernel_rfl
section
variable {ops : Array Oper} {rest : List Oper} {o : Oper} {a : Act} {Q : Exit → Act → World → Prop} {W : World}
theorem store_grid {g : Nat} {cs : Array Value} (hB : W.heap[g]? = some (.cells cs 66 (0, 0))) (hcs : cs.size = 3) (x0 x1 : Int) (ad : Option Addr) (n cap : Nat) (t : TypeId) (p x : Operand) (hN : o.dst = none) (hgd : o.guard = none) (ho : o.op = .store t p x) (ht : (Tryd.prog.info? t).map (·.size) = some 3)
    (hp : a.eval p = .pointer (some ⟨g, 0, none⟩)) (hx : a.eval x = .agg #[.int .i64 x0, .int .i64 x1, .slice ad n cap])
    (h : ∀ w', w'.heap[g]? = some (.cells #[.int .i64 x0, .int .i64 x1, .slice ad n cap] 66 (0, 0)) → W.grownBy w' (some g) → wpList Tryd.prog ops Q rest a w') : wpList Tryd.prog ops Q (o :: rest) a W := by
  have h1 : ∀ q ∈ ([.int .i64 x0, .int .i64 x1, .slice ad n cap] : List Value), q.oneCell' = true := by
    intro q hq
    simp only [List.mem_cons, List.not_mem_nil, or_false] at hq
    rcases hq with rfl | rfl | rfl <;> rfl
  have hrun := run_store_run (P := Tryd.prog) t (.agg #[.int .i64 x0, .int .i64 x1, .slice ad n cap]) [.int .i64 x0, .int .i64 x1, .slice ad n cap] (o := 0) hB rfl ht (by show 0 + 3 ≤ cs.size; omega) h1
  obtain ⟨cur', h2, h3, h4⟩ := setCells_row [.int .i64 x0, .int .i64 x1, .slice ad n cap] 0 W cs hB (by show 0 + 3 ≤ cs.size; omega)
  have hl : cs.toList.length = 3 := by rw [Array.length_toList]; exact hcs
  have e : cur' = #[.int .i64 x0, .int .i64 x1, .slice ad n cap] := by
    apply Array.toList_inj.1
    rw [h4, List.take_zero, List.nil_append, List.drop_of_length_le (by show cs.toList.length ≤ 0 + 3; omega), List.append_nil]
  rw [e] at h2
  refine wpList_plain hgd fun K hK => ?_
  unfold Oper.wp execOp
  simp only [ho, hp, hx, Sem.run_bind, Sem.run_pure, Result.andThen_ok, hrun]
  show K (a.put o.dst undef) _
  rw [hN]
  exact hK _ _ (h _ h2 (grown_setCells _ _ _ _))
end
theorem resize_no {w : World} {base g b r c : Nat} {L : List C5} (h : GridAt w base g b r c L) (rows cols : Int) (hno : ¬ (1 ≤ rows ∧ rows ≤ 60 ∧ 1 ≤ cols ∧ cols ≤ 200)) :
    Calls Tryd.prog 17 #[.pointer (some ⟨g, 0, none⟩), .int .i64 rows, .int .i64 cols] w (fun e w' => e = .returned (.int .i64 1) ∧ Below w.heap.size w w') := by
  have HN := Aside0.mk hno
  clear hno h
  go_enter Tryd.func17, Tryd.ntmps17
  go_wp2_with fail
  refine (new_no rows cols HN.out).mono ?_
  rintro e w1 ⟨rfl, hb⟩
  have HB := Aside0.mk hb
  clear hb
  go_wp2
  go_ret
  exact ⟨rfl, HB.out⟩
set_option maxHeartbeats 4000000 in
theorem resize_yes {w : World} {base g b r c : Nat} {L : List C5} (h : GridAt w base g b r c L) (r2 c2 : Nat) (h1 : 1 ≤ r2) (h2 : r2 ≤ 60) (h3 : 1 ≤ c2) (h4 : c2 ≤ 200) :
    Calls Tryd.prog 17 #[.pointer (some ⟨g, 0, none⟩), .int .i64 r2, .int .i64 c2] w (fun e w' => e = .returned (.int .i64 0) ∧ ∃ b', GridAt w' base g b' r2 c2 (resTo c r2 c2 L (min r r2)) ∧ w.heap.size ≤ b' ∧ w.grownBy w' (some g)) := by
  have HG := Aside0.mk h
  clear h
  go_enter Tryd.func17, Tryd.ntmps17
  go_wp2_with fail
  refine (new_yes r2 c2 h1 h2 h3 h4).mono ?_
  rintro e w1 ⟨g2, b2, rfl, hG1, hb1⟩
  have HB1 := Aside0.mk hb1
  have HG1 := Aside0.mk (HG.out.below hb1)
  have HT1 := Aside0.mk (show GridAt w1 w.heap.size g2 b2 r2 c2 (resTo c r2 c2 L 0) from hG1)
  clear hb1 hG1
  have z0 : w1.cell? ⟨g, 0, none⟩ = some (.int .i64 (r : Int)) := (HG1.out.cells.elim fun _ q => q.2.2.1)
  obtain ⟨m, hm⟩ : ∃ m, min r r2 = m := ⟨_, rfl⟩
  have hmi : (if (r : Int) < (r2 : Int) then (r : Int) else (r2 : Int)) = (m : Int) := by omega
  have hmj : (if r < r2 then (r : Int) else (r2 : Int)) = (m : Int) := by split <;> omega
  have HM := Aside0.mk hm
  go_wp2
  try rw [hmi]
  have hm1 : m ≤ r := by omega
  have hm2 : m ≤ r2 := by omega
  clear hmi hmj z0 hm
  go_loopw [25] (fun v25 wr => ∃ i : Nat, i ≤ m ∧ v25 = .int .i64 i ∧ Aside0 (Below w.heap.size w wr) ∧ Aside0 (GridAt wr w.heap.size g2 b2 r2 c2 (resTo c r2 c2 L i))) (fun v25 _ => m - (intOf v25).toNat)
  case atStart => exact ⟨0, Nat.zero_le _, rfl, HB1, HT1⟩
  case round =>
    obtain ⟨i, hi, rfl, HB2, HT2⟩ := hrel
    clear HB1 HT1 HG1
    by_cases hlt : i < m
    · have HG2 := Aside0.mk (HG.out.below HB2.out)
      obtain ⟨ct, kt1, kt2, _, t1, t2⟩ := HT2.out.cells
      go_wp2_with fail
      refine (row_calls t1 t2 i (by omega) HT2.out.len kt1 HT2.out.small HT2.out.r2 HT2.out.c1 HT2.out.c2).mono ?_
      rintro e w3 ⟨rfl, m3, hw3⟩
      have hb3 : Below wr.heap.size wr w3 := by rw [hw3]; exact below_drawn wr m3
      clear hw3 t1 t2
      have HB3 := Aside0.mk (below_step HB2.out hb3)
      have HT3 := Aside0.mk (HT2.out.below hb3)
      have HG3 := Aside0.mk (HG2.out.below hb3)
      clear hb3 HB2 HT2 HG2
      obtain ⟨cg, kg1, kg2, _, t1, t2⟩ := HG3.out.cells
      go_wp2_with fail
      refine (row_calls t1 t2 i (by omega) HG3.out.len kg1 HG3.out.small HG3.out.r2 HG3.out.c1 HG3.out.c2).mono ?_
      rintro e w4 ⟨rfl, m4, hw4⟩
      have hb4 : Below w3.heap.size w3 w4 := by rw [hw4]; exact below_drawn w3 m4
      clear hw4 t1 t2
      have HB4 := Aside0.mk (below_step HB3.out hb4)
      have HT4 := Aside0.mk (HT3.out.below hb4)
      have HG4 := Aside0.mk (HG3.out.below hb4)
      clear hb4 HB3 HT3 HG3
      have hp1 := place_le (n := i) (r := r) (c := c) (by omega)
      have hp2 := place_le (n := i) (r := r2) (c := c2) (by omega)
      rw [← HG4.out.len] at hp1
      rw [← HT4.out.len] at hp2
      have hLM := resTo_length (c2 := c2) HG.out.len (r2 := r2) i (by have := HM.out; omega)
      have hcl : ((L.drop (i * c)).take (min c c2)).length = min c c2 := part_length L (i * c) (min c c2) (by omega)
      have hsl : (splice (resTo c r2 c2 L i) (i * c2) ((L.drop (i * c)).take (min c c2))).length = (resTo c r2 c2 L i).length := splice_length _ _ _ (by omega)
      go_upto_region 8 with ((with_reducible refine gate_builtin (b := .copy) (xs := #[.tmp 30, .tmp 33]) rfl ?_); refine copy_row HT4.out.row HG4.out.row (i * c2) c2 (ct - i * c2) (i * c) c (cg - i * c) hp2 hp1 (.tmp 30) (.tmp 33) rfl rfl rfl rfl rfl rfl ?_; intro w5 hR5 hG5; have HT5 := Aside0.mk (HT4.out.wrote hG5 hR5 hsl); have HB5 := Aside0.mk (below_new HB4.out hG5 HT4.out.bb); clear hR5 hG5)
      obtain ⟨cu, ku1, ku2, _, t1, t2⟩ := HT5.out.cells
      clear HB4 HT4 HG4
      go_wp2_with fail
      refine (row_calls t1 t2 i (by omega) HT5.out.len ku1 HT5.out.small HT5.out.r2 HT5.out.c1 HT5.out.c2).mono ?_
      rintro e w6 ⟨rfl, m6, hw6⟩
      have hb6 : Below w5.heap.size w5 w6 := by rw [hw6]; exact below_drawn w5 m6
      clear hw6 t1 t2
      have HB6 := Aside0.mk (below_step HB5.out hb6)
      have HT6 := Aside0.mk (HT5.out.below hb6)
      clear hb6 HB5 HT5
      go_wp2_with fail
      refine (mend_calls HT6.out.row (i * c2) c2 h3 (by omega) HT6.out.small (by omega)).mono ?_
      rintro e w7 ⟨rfl, hR7, hg7⟩
      have HT7 := Aside0.mk (HT6.out.wrote (L' := resTo c r2 c2 L (i + 1)) hg7 hR7 (by rw [resTo_length HG.out.len (i + 1) (by have := HM.out; omega), hsl, hLM]))
      have HB7 := Aside0.mk (below_new HB6.out hg7 HT6.out.bb)
      clear hR7 hg7 HB6 HT6 hp1 hp2 hLM hcl hsl
      go_wp2
      exact ⟨⟨i + 1, by omega, by go_num, HB7, HT7⟩, by simp [intOf]; omega⟩
    · obtain rfl : i = m := by omega
      obtain ⟨ct, kt1, kt2, t0, t1, t2⟩ := HT2.out.cells
      have HGB := HG.out.below HB2.out
      obtain ⟨cg, eg, _⟩ := HGB.blk
      have HEG := Aside0.mk eg
      clear eg HGB
      go_wp2_with ((with_reducible refine gate_store (t := 66) (p := 44) (v := .tmp 43) rfl ?_); refine store_grid HEG.out rfl r2 c2 (some ⟨b2, 0, none⟩) (resTo c r2 c2 L i).length ct 66 (.tmp 44) (.tmp 43) rfl rfl rfl info_grid rfl rfl ?_; intro w4 HX4 HG4; have HX4 := Aside0.mk HX4; have HG4 := Aside0.mk HG4)
      go_ret
      rw [HM.out]
      have hbg := HG.out.bg
      have hgl : g < w.heap.size := HG.out.blk.elim fun _ q => blk_lt q.1
      have hb2 := HT2.out.bb
      exact ⟨rfl, b2, ⟨⟨ct, HX4.out, kt1, kt2⟩, HT2.out.row.grown HG4.out (fun e => by injection e with e; omega), HT2.out.len, h1, h2, h3, h4, by omega, hbg, by omega⟩, hb2, grown_trans (grown_of_none HB2.out) HG4.out⟩
end Go.Proofs.YtcfndcjbgalnpaaDoor.Hand
namespace Go.Proofs.YtcfndcjbgalnpaaDoor.Hand
open Go.RowKit Go.Proofs.YtcfndcjbgalnpaaDoorW.PrintWords
theorem Narrow.splice {L M : List C5} (h : Narrow L) (h2 : Narrow M) (o : Nat) (hl : o + M.length ≤ L.length) : Narrow (splice L o M) := by
  intro i c hc
  rcases Nat.lt_or_ge i o with h3 | h3
  · rw [splice_get_out _ _ _ _ hl (Or.inl h3)] at hc
    exact h _ _ hc
  · rcases Nat.lt_or_ge i (o + M.length) with h4 | h4
    · obtain ⟨j, rfl⟩ : ∃ j, i = o + j := ⟨i - o, by omega⟩
      rw [splice_get_in _ _ _ _ hl (by omega)] at hc
      exact h2 _ _ hc
    · rw [splice_get_out _ _ _ _ hl (Or.inr h4)] at hc
      exact h _ _ hc
section
variable {w W W' : World} {g b b' r c r' c' g2 b2 r2 c2 : Nat} {L L' M : List C5}
end
end Go.Proofs.YtcfndcjbgalnpaaDoor.Hand
