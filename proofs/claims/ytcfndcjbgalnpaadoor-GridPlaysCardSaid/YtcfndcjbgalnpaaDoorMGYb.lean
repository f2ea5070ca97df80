/- Texts of this claim, put together. -/
import Derived.Test.YtcfndcjbgalnpaaDoorMGYa
import Derived.Test.YtcfndcjbgalnpaaDoorProg
import Derived.Below
import Derived.Deep.Draws
import Derived.Deep.AppendLies
import Derived.Maps.AppendAt
import Derived.OwnWalk
import Derived.Laws.BytesArg
import Derived.Laws.MakeOwn
import Derived.Laws.OwnMore
import Derived.Deep.OwnRows
import Derived.Tactics
import Derived.Lib.ConvBytes
import Derived.Laws.Slices
import Derived.WalkKit
import Derived.KernelRfl
import Derived.RowKit3
import Derived.Deep.LoopGhost
import Derived.Deep.QuietTactic
import Derived.BigQuiet
import Derived.WideLaws
import Derived.Deep.DeepCutAuto
import Derived.Deep.CutBlock
import Derived.Deep.RegionHeld3
import Derived.Laws.Rows
import Derived.Lib.AppendStr
import Derived.ArgAppend
import Derived.Laws.IdiomCopy
import Derived.OrdersHeld
import Derived.Laws.BitsLemmas
import Derived.RowKit
import Derived.Test.YtcfndcjbgalnpaaDoorMGYWWords
import Derived.Test.YtcfndcjbgalnpaaDoorMGYWLast
import Derived.Test.YtcfndcjbgalnpaaDoorMGYWTab
import Derived.Test.YtcfndcjbgalnpaaDoorMGYWApart
import Derived.Test.YtcfndcjbgalnpaaDoorMGYWFoot
import Derived.Test.YtcfndcjbgalnpaaDoorMGYWShare
import Derived.Test.YtcfndcjbgalnpaaDoorMGYWN
import Derived.Test.YtcfndcjbgalnpaaDoorMGYWEqStruct
import Derived.Test.YtcfndcjbgalnpaaDoorMGYWRepsOne
import Derived.Test.YtcfndcjbgalnpaaDoorMGYWMore
set_option linter.unusedVariables false
set_option linter.unusedSimpArgs false
namespace Go.Proofs.YtcfndcjbgalnpaaDoor.Hand
open Go.RowKit Go.Proofs.YtcfndcjbgalnpaaDoorW.PrintWords
def MayC (x : C5) : Prop := PB.cell_May.f 9 x.r x.f x.g x.b x.w = some true
def LookOk (f g b : Int) : Prop := PB.cell_MayAttr.f f g b = some true
theorem look_some (f g b : Int) : ∃ r, PB.cell_MayAttr.f f g b = some r := by
  have hc : ∀ x, ∃ r, PB.cell_colour.f x = some r := by
    intro x
    unfold PB.cell_colour.f
    repeat' split
    all_goals exact ⟨_, rfl⟩
  obtain ⟨r1, h1⟩ := hc g
  obtain ⟨r2, h2⟩ := hc b
  unfold PB.cell_MayAttr.f
  rw [h1, h2]
  simp only [Option.bind_some]
  repeat' split
  all_goals exact ⟨_, rfl⟩
theorem w64_1 : wrap64 (0 + 1) = 1 := by unfold RowKit.wrap64; decide
theorem w64_2 : wrap64 (1 + 1) = 2 := by unfold RowKit.wrap64; decide
theorem may_value (r f g b w : Int) : ∃ m l, PB.cell_MayAttr.f f g b = some l ∧ PB.cell_May.f 9 r f g b w = some m ∧ (m = true ↔ l = true ∧ ((w = 0 ∧ wd r = 1) ∨ (w = 1 ∧ wd r = 2) ∨ (w = 2 ∧ r = 0))) := by
  obtain ⟨l, hl⟩ := look_some f g b
  by_cases h0 : w = 0
  · subst h0
    by_cases h : wd r = 1
    · exact ⟨l, l, hl, by simp only [PB.cell_May.f, PB.cell_May.j0, cell_Width.f, Option.bind_some, w64_1, h, hl, if_true, beq_self_eq_true], by simp [h]⟩
    · exact ⟨false, l, hl, by simp only [PB.cell_May.f, PB.cell_May.j0, cell_Width.f, Option.bind_some, w64_1, h, hl, if_true, if_false, beq_self_eq_true], by simp [h]⟩
  by_cases h1 : w = 1
  · subst h1
    by_cases h : wd r = 2
    · exact ⟨l, l, hl, by simp only [PB.cell_May.f, PB.cell_May.j0, cell_Width.f, Option.bind_some, w64_2, h, hl, if_true, beq_self_eq_true, h0, if_false], by simp [h]⟩
    · exact ⟨false, l, hl, by simp only [PB.cell_May.f, PB.cell_May.j0, cell_Width.f, Option.bind_some, w64_2, h, hl, if_true, if_false, beq_self_eq_true, h0], by simp [h]⟩
  have hb : (w == 1) = false := beq_eq_false_iff_ne.2 h1
  by_cases h2 : w = 2
  · subst h2
    by_cases h : r = 0
    · exact ⟨l, l, hl, by simp only [PB.cell_May.f, PB.cell_May.j0, hb, h0, h, hl, Option.bind_some, if_false, if_true, Bool.false_eq_true], by simp [h]⟩
    · exact ⟨false, l, hl, by simp only [PB.cell_May.f, PB.cell_May.j0, hb, h0, h, hl, Option.bind_some, if_false, if_true, Bool.false_eq_true], by simp [h]⟩
  · exact ⟨false, l, hl, by simp only [PB.cell_May.f, PB.cell_May.j0, hb, h0, h2, if_false, Bool.false_eq_true], by simp [h0, h1, h2]⟩
theorem mayC_iff {x : C5} : MayC x ↔ LookOk x.f x.g x.b ∧ ((x.w = 0 ∧ wd x.r = 1) ∨ (x.w = 1 ∧ wd x.r = 2) ∨ (x.w = 2 ∧ x.r = 0)) := by
  obtain ⟨m, l, hl, hm, h⟩ := may_value x.r x.f x.g x.b x.w
  unfold MayC LookOk
  rw [hm, hl]
  simpa using h
theorem may_some (x : C5) : ∃ m, PB.cell_May.f 9 x.r x.f x.g x.b x.w = some m := by
  obtain ⟨m, l, hl, hm, h⟩ := may_value x.r x.f x.g x.b x.w
  exact ⟨m, hm⟩
theorem wd_32 : wd 32 = 1 := by decide +kernel
theorem look_bg {f g b : Int} (h : LookOk f g b) : LookOk 0 0 b := by
  unfold LookOk PB.cell_MayAttr.f at *
  have hc : ∀ x, ∃ r, PB.cell_colour.f x = some r := by
    intro x
    unfold PB.cell_colour.f
    repeat' split
    all_goals exact ⟨_, rfl⟩
  obtain ⟨r1, h1⟩ := hc g
  obtain ⟨r2, h2⟩ := hc b
  have h0 : PB.cell_colour.f 0 = some true := by decide
  rw [h1, h2] at h
  simp only [Option.bind_some] at h
  rw [h0, h2]
  simp only [Option.bind_some]
  rw [if_pos (by decide), if_pos (by decide), if_pos trivial]
  split at h
  · split at h
    · split at h
      · exact h
      · cases h
    · cases h
  · cases h
theorem mayC_blank {f g b : Int} (h : LookOk f g b) : MayC (blankC b) := mayC_iff.2 ⟨look_bg h, .inl ⟨rfl, wd_32⟩⟩
theorem mayC_space {x : C5} (h : MayC x) : MayC ⟨32, x.f, x.g, x.b, 0⟩ := mayC_iff.2 ⟨(mayC_iff.1 h).1, .inl ⟨rfl, wd_32⟩⟩
theorem mayC_right {x : C5} (h : MayC x) : MayC ⟨0, x.f, x.g, x.b, 2⟩ := mayC_iff.2 ⟨(mayC_iff.1 h).1, .inr (.inr ⟨rfl, rfl⟩)⟩
theorem mayC_blank0 : MayC (blankC 0) := mayC_blank (f := 0) (g := 0) (b := 0) (by unfold LookOk; decide)
def AllMay (L : List C5) : Prop := ∀ x ∈ L, MayC x
theorem AllMay.get {L : List C5} (h : AllMay L) {i : Nat} (hi : i < L.length) : MayC (L.getD i z5) := by
  rw [List.getD_eq_getElem?_getD, List.getElem?_eq_getElem hi]
  exact h _ (List.getElem_mem hi)
theorem AllMay.spl {L M : List C5} (h : AllMay L) (h2 : AllMay M) (o : Nat) : AllMay (splice L o M) := by
  intro x hx
  unfold splice at hx
  simp only [List.mem_append] at hx
  rcases hx with hx | hx | hx
  · exact h x (List.mem_of_mem_take hx)
  · exact h2 x hx
  · exact h x (List.mem_of_mem_drop hx)
theorem AllMay.part {L : List C5} (h : AllMay L) (o m : Nat) : AllMay ((L.drop o).take m) := fun x hx => h x (List.mem_of_mem_drop (List.mem_of_mem_take hx))
theorem AllMay.rep {x : C5} (h : MayC x) (n : Nat) : AllMay (List.replicate n x) := fun y hy => by rw [List.eq_of_mem_replicate hy]; exact h
theorem AllMay.set {L : List C5} (h : AllMay L) (i : Nat) {x : C5} (hx : MayC x) : AllMay (L.set i x) := fun y hy => by
  rcases List.mem_or_eq_of_mem_set hy with hy | rfl
  · exact h y hy
  · exact hx
theorem AllMay.mendL {L : List C5} (h : AllMay L) : AllMay (mendL L) := by
  intro x hx
  obtain ⟨i, hi⟩ := List.mem_iff_getElem?.1 hx
  have hl : i < L.length := by
    have := (List.getElem?_eq_some_iff.1 hi).1
    rwa [mendL_length] at this
  rw [mendL_get L i hl] at hi
  obtain rfl := Option.some.inj hi
  unfold mendC
  split
  · exact mayC_space (h.get hl)
  · exact h.get hl
def RowOk (l : List C5) : Prop := ∀ i, i < l.length → aloneL l i = false
theorem getD_mendC {l : List C5} {i : Nat} (h : i < l.length) : (mendL l).getD i z5 = mendC l i := getD_mendL h
theorem mendC_w {l : List C5} {i : Nat} (h : aloneL l i = true) : (mendC l i).w = 0 := by unfold mendC; rw [if_pos h]
theorem mend_ok (l : List C5) : RowOk (mendL l) := by
  intro i hi
  rw [mendL_length] at hi
  unfold aloneL
  rw [mendL_length, getD_mendC hi]
  cases ha : aloneL l i with
  | true =>
    rw [mendC_w ha]
    rfl
  | false =>
    rw [mendC_keep ha]
    unfold aloneL at ha
    rw [Bool.or_eq_false_iff] at ha
    obtain ⟨h1, h2⟩ := ha
    by_cases w1 : (l.getD i z5).w = 1
    · have e1 : ((l.getD i z5).w == 1) = true := beq_iff_eq.2 w1
      have e2 : ((l.getD i z5).w == 2) = false := by rw [w1]; rfl
      rw [e1, Bool.true_and, Bool.or_eq_false_iff] at h1
      have hn : i + 1 < l.length := by
        have := beq_eq_false_iff_ne.1 h1.1
        omega
      have hw2 : (l.getD (i + 1) z5).w = 2 := by simpa using h1.2
      have ha2 : aloneL l (i + 1) = false := by
        unfold aloneL
        rw [hw2, show i + 1 - 1 = i by omega, w1]
        simp
      rw [e1, e2, getD_mendC hn, mendC_keep ha2, hw2, h1.1]
      rfl
    · have e1 : ((l.getD i z5).w == 1) = false := beq_eq_false_iff_ne.2 w1
      rw [e1]
      by_cases w2 : (l.getD i z5).w = 2
      · have e2 : ((l.getD i z5).w == 2) = true := beq_iff_eq.2 w2
        rw [e2, Bool.true_and, Bool.or_eq_false_iff] at h2
        have hi0 : i ≠ 0 := beq_eq_false_iff_ne.1 h2.1
        have hw1 : (l.getD (i - 1) z5).w = 1 := by simpa using h2.2
        have ha2 : aloneL l (i - 1) = false := by
          unfold aloneL
          rw [hw1, show i - 1 + 1 = i by omega, w2]
          have : (i == l.length) = false := beq_eq_false_iff_ne.2 (by omega)
          simp [this]
        rw [e2, getD_mendC (show i - 1 < l.length by omega), mendC_keep ha2, hw1, h2.1]
        rfl
      · have e2 : ((l.getD i z5).w == 2) = false := beq_eq_false_iff_ne.2 w2
        rw [e2]
        rfl
theorem narrow_ok {l : List C5} (h : ∀ c ∈ l, c.w = 0) : RowOk l := by
  rw [← mendL_narrow h]
  exact mend_ok l
abbrev rowN (c : Nat) (L : List C5) (n : Nat) : List C5 := (L.drop (n * c)).take c
structure GridOk (r c : Nat) (L : List C5) : Prop where
  may : AllMay L
  ok : ∀ n, n < r → RowOk (rowN c L n)
theorem rowN_get {c : Nat} {L : List C5} {n j : Nat} (hj : j < c) : (rowN c L n)[j]? = L[n * c + j]? := by
  unfold rowN
  rw [List.getElem?_take_of_lt hj, List.getElem?_drop]
theorem rowN_len {r c : Nat} {L : List C5} (hl : L.length = r * c) {n : Nat} (hn : n < r) : (rowN c L n).length = c := part_length L _ _ (by rw [hl]; exact place_le hn)
theorem rowN_ext {r c : Nat} {L M : List C5} (hL : L.length = r * c) {r2 : Nat} (hM : M.length = r2 * c) {n m : Nat} (hn : n < r) (hm : m < r2) (h : ∀ j, j < c → L[n * c + j]? = M[m * c + j]?) : rowN c L n = rowN c M m := by
  apply List.ext_getElem?
  intro j
  rcases Nat.lt_or_ge j c with hj | hj
  · rw [rowN_get hj, rowN_get hj, h j hj]
  · rw [List.getElem?_eq_none (by rw [rowN_len hL hn]; exact hj), List.getElem?_eq_none (by rw [rowN_len hM hm]; exact hj)]
theorem GridOk.row {r c : Nat} {L M : List C5} (h : GridOk r c L) (hl : L.length = r * c) {n : Nat} (hn : n < r) (hM : AllMay M) (hm : M.length = c) : GridOk r c (splice L (n * c) (mendL M)) := by
  have hle := place_le (c := c) hn
  have hsl : (splice L (n * c) (mendL M)).length = r * c := by rw [splice_length _ _ _ (by rw [mendL_length]; omega), hl]
  refine ⟨h.may.spl hM.mendL _, fun k hk => ?_⟩
  by_cases hkn : k = n
  · subst hkn
    have e : rowN c (splice L (k * c) (mendL M)) k = mendL M := by
      apply List.ext_getElem?
      intro j
      rcases Nat.lt_or_ge j c with hj | hj
      · rw [rowN_get hj, splice_get_in _ _ _ _ (by rw [mendL_length]; omega) (by rw [mendL_length]; omega)]
      · rw [List.getElem?_eq_none (by rw [rowN_len hsl hk]; exact hj), List.getElem?_eq_none (by rw [mendL_length]; omega)]
    rw [e]
    exact mend_ok M
  · rw [rowN_ext hsl hl hk hk (fun j hj => ?_)]
    · exact h.ok k hk
    · refine splice_get_out _ _ _ _ (by rw [mendL_length]; omega) ?_
      rw [mendL_length, hm]
      rcases Nat.lt_or_gt_of_ne hkn with h1 | h1
      · exact Or.inl (place_lt h1 hj)
      · right
        have := place_le (n := n) (r := k) (c := c) h1
        omega
end Go.Proofs.YtcfndcjbgalnpaaDoor.Hand
namespace Go.Proofs.YtcfndcjbgalnpaaDoor.Hand
open Go.RowKit Go.Proofs.YtcfndcjbgalnpaaDoorW.PrintWords Go.Proofs.YtcfndcjbgalnpaaDoorW.PrintLast
def fillG (L : List C5) (x : C5) (m : Bool) : List C5 := if (m && (x.w == 0)) = true then List.replicate L.length x else L
theorem splice_all {α : Type} (L M : List α) (h : M.length = L.length) : splice L 0 M = M := by
  unfold splice
  rw [List.take_zero, List.nil_append, List.drop_of_length_le (by omega), List.append_nil]
theorem fill_calls0 {w : World} {b cap : Nat} {L : List C5} (hR : RowAt w b L) (hL : L.length ≤ 12000) (x : C5) (hcap : L.length ≤ cap) :
    Calls Tryd.prog 41 #[.slice (some ⟨b, 0, none⟩) L.length cap, .agg #[.int .i32 x.r, .int .i64 x.f, .int .i64 x.g, .int .i64 x.b, .int .i64 x.w]] w (fun e w' => e = .returned (.tuple #[]) ∧ RowAt w' b (List.replicate L.length x) ∧ w.grownBy w' (some b)) := by
  have h := fill_calls hR 0 L.length (by omega) hL x hcap
  rw [splice_all _ _ (List.length_replicate ..)] at h
  exact h
theorem fillKeep {w w' : World} {base g b r c gb cap : Nat} {L : List C5} {x : C5} (hG : GridAt w base g b r c L) (hX : w.heap[gb]? = some (.cells #[.int .i32 x.r, .int .i64 x.f, .int .i64 x.g, .int .i64 x.b, .int .i64 x.w] 32 (0, 0))) (hne : gb ≠ b) (hg : w.grownBy w' (some b)) (c2 : w.cell? ⟨g, 2, none⟩ = some (.slice (some ⟨b, 0, none⟩) L.length cap)) :
    w'.cell? ⟨gb, 0, none⟩ = some (.int .i32 x.r) ∧ w'.cell? ⟨gb, 1, none⟩ = some (.int .i64 x.f) ∧ w'.cell? ⟨gb, 2, none⟩ = some (.int .i64 x.g) ∧ w'.cell? ⟨gb, 3, none⟩ = some (.int .i64 x.b) ∧ w'.cell? ⟨gb, 4, none⟩ = some (.int .i64 x.w) ∧ w'.cell? ⟨g, 2, none⟩ = some (.slice (some ⟨b, 0, none⟩) L.length cap) := by
  have hX2 := (hg.block gb (blk_lt hX) (fun e => hne (Option.some.inj e))).trans hX
  refine ⟨(blk_cell hX2 0).trans rfl, (blk_cell hX2 1).trans rfl, (blk_cell hX2 2).trans rfl, (blk_cell hX2 3).trans rfl, (blk_cell hX2 4).trans rfl, ?_⟩
  rw [← c2]
  exact World.cell?_of_block (hg.block g (hG.blk.elim fun _ q => blk_lt q.1) (fun e => hG.gb (Option.some.inj e)))
set_option maxHeartbeats 2000000 in
theorem gfill_calls {w : World} {base g b r c : Nat} {L : List C5} (h : GridAt w base g b r c L) (hT : TabW w) (x : C5) (k : Nat) (m : Bool) (hm : PB.cell_May.f k x.r x.f x.g x.b x.w = some m) :
    Calls Tryd.prog 23 #[.pointer (some ⟨g, 0, none⟩), x.agg] w (fun e w' => e = .returned (.tuple #[]) ∧ RowAt w' b (fillG L x m) ∧ w.grownBy w' (some b)) := by
  have HG := Aside0.mk h
  have HT := Aside0.mk hT
  have HM := Aside0.mk hm
  clear h hm hT
  have EO : Aside0 (fillG L x m = if (m && (x.w == 0)) = true then List.replicate L.length x else L) := ⟨rfl⟩
  go_enter Tryd.func23, Tryd.ntmps23
  go_upto_region 1 with ((with_reducible refine gate_dst (N := 3) rfl ?_); refine box_event ?hg (N := 3) ?hd (cs := #[.int .i32 x.r, .int .i64 x.f, .int .i64 x.g, .int .i64 x.b, .int .i64 x.w]) (t := 32) ?hr ?_; (case hd => rfl); (case hg => rfl); (case hr => first | (go_simp; done) | (go_simp; rfl)); intro gb hg w3 hbox hb; have HX := Aside0.mk hbox; have HB3 := Aside0.mk hb; have HGE := Aside0.mk (Nat.le_of_eq hg.symm); clear hbox hb hg)
  have z0 : w3.cell? ⟨gb, 0, none⟩ = some (.int .i32 x.r) := (blk_cell HX.out 0).trans rfl
  have z1 : w3.cell? ⟨gb, 1, none⟩ = some (.int .i64 x.f) := (blk_cell HX.out 1).trans rfl
  have z2 : w3.cell? ⟨gb, 2, none⟩ = some (.int .i64 x.g) := (blk_cell HX.out 2).trans rfl
  have z3 : w3.cell? ⟨gb, 3, none⟩ = some (.int .i64 x.b) := (blk_cell HX.out 3).trans rfl
  have z4 : w3.cell? ⟨gb, 4, none⟩ = some (.int .i64 x.w) := (blk_cell HX.out 4).trans rfl
  go_wp2_with fail
  refine (PB.cell_May.calls k x.r x.f x.g x.b x.w m w3 (tabAt HT.out HB3.out) HM.out).mono ?_
  rintro e w2 ⟨rfl, hb2⟩
  have HB5 := Aside0.mk (below_step HB3.out hb2)
  have HX2 := Aside0.mk (blk_below HX.out hb2)
  clear hb2 z0 z1 z2 z3 z4 HX HB3
  have HG2 := Aside0.mk (HG.out.below HB5.out)
  have HNE := Aside0.mk (show gb ≠ b by have := HG.out.row.lt; have := HGE.out; omega)
  cases m with
  | false =>
    go_wp2
    rw [EO.out, Bool.false_and, if_neg (by decide)]
    first | (refine ⟨rfl, .tuple #[], results_none rfl _ _ _, ?_⟩; exact ⟨rfl, HG2.out.row, grown_of_none HB5.out⟩) | (go_end0; exact ⟨rfl, HG2.out.row, grown_of_none HB5.out⟩)
  | true =>
  have z4 : w2.cell? ⟨gb, 4, none⟩ = some (.int .i64 x.w) := (blk_cell HX2.out 4).trans rfl
  by_cases hw : x.w = 0
  case neg =>
    have hw2 : (x.w == 0) = false := beq_eq_false_iff_ne.2 hw
    rw [hw2] at EO
    go_wp2
    rw [EO.out, Bool.and_false, if_neg (by decide)]
    first | (refine ⟨rfl, .tuple #[], results_none rfl _ _ _, ?_⟩; exact ⟨rfl, HG2.out.row, grown_of_none HB5.out⟩) | (go_end0; exact ⟨rfl, HG2.out.row, grown_of_none HB5.out⟩)
  have hw2 : (x.w == 0) = true := beq_iff_eq.2 hw
  rw [hw2, Bool.true_and, if_pos rfl] at EO
  go_wp2
  have HGd := Aside0.mk (HG2.out.below (below_drew (Below.refl _ _)))
  have HXd := Aside0.mk (blk_below HX2.out (below_drew (Below.refl _ _)))
  obtain ⟨cap, k1, k2, _, _, c2⟩ := HGd.out.cells
  have hsm := HG2.out.small
  clear z4 HX2
  have keep : w2.drew.cell? ⟨gb, 0, none⟩ = some (.int .i32 x.r) ∧ w2.drew.cell? ⟨gb, 1, none⟩ = some (.int .i64 x.f) ∧ w2.drew.cell? ⟨gb, 2, none⟩ = some (.int .i64 x.g) ∧ w2.drew.cell? ⟨gb, 3, none⟩ = some (.int .i64 x.b) ∧ w2.drew.cell? ⟨gb, 4, none⟩ = some (.int .i64 x.w) ∧ w2.drew.cell? ⟨g, 2, none⟩ = some (.slice (some ⟨b, 0, none⟩) L.length cap) :=
    ⟨(blk_cell HXd.out 0).trans rfl, (blk_cell HXd.out 1).trans rfl, (blk_cell HXd.out 2).trans rfl, (blk_cell HXd.out 3).trans rfl, (blk_cell HXd.out 4).trans rfl, c2⟩
  have KEEP := Aside0.mk keep
  clear keep hw hw2
  go_region_held3 (fun w' => w'.cell? ⟨gb, 0, none⟩ = some (.int .i32 x.r) ∧ w'.cell? ⟨gb, 1, none⟩ = some (.int .i64 x.f) ∧ w'.cell? ⟨gb, 2, none⟩ = some (.int .i64 x.g) ∧ w'.cell? ⟨gb, 3, none⟩ = some (.int .i64 x.b) ∧ w'.cell? ⟨gb, 4, none⟩ = some (.int .i64 x.w) ∧ w'.cell? ⟨g, 2, none⟩ = some (.slice (some ⟨b, 0, none⟩) L.length cap))
    (first | exact KEEP.out | exact KEEP2.out)
    (first | (go_at_call 41; with_reducible refine (fill_calls0 HGd.out.row hsm x k1).mono ?_; rintro e w10 ⟨rfl, hRf, hgf⟩; have HRf := Aside0.mk hRf; have HGf := Aside0.mk hgf; clear hRf hgf; have KEEP2 := Aside0.mk (fillKeep HGd.out HXd.out HNE.out HGf.out c2)))
  go_wp2
  refine ⟨rfl, .tuple #[], results_none rfl _ _ _, ?_⟩
  have hr := HRf.out
  rw [EO.out]
  exact ⟨rfl, hr, grown_trans (grown_of_none (below_step HB5.out (below_drew (Below.refl _ _)))) HGf.out⟩
end Go.Proofs.YtcfndcjbgalnpaaDoor.Hand
namespace Go.Proofs.YtcfndcjbgalnpaaDoor.Hand
open Go.RowKit Go.Proofs.YtcfndcjbgalnpaaDoorW.PrintWords
theorem row_ok {r c : Nat} {L M : List C5} {n : Nat} (hmay : AllMay L) (hok : ∀ k, k < r → k ≠ n → RowOk (rowN c L k)) (hl : L.length = r * c) (hn : n < r) (hM : AllMay M) (hm : M.length = c) : GridOk r c (splice L (n * c) (mendL M)) := by
  have hle := place_le (c := c) hn
  have hsl : (splice L (n * c) (mendL M)).length = r * c := by rw [splice_length _ _ _ (by rw [mendL_length]; omega), hl]
  refine ⟨hmay.spl hM.mendL _, fun k hk => ?_⟩
  by_cases hkn : k = n
  · subst hkn
    have e : rowN c (splice L (k * c) (mendL M)) k = mendL M := by
      apply List.ext_getElem?
      intro j
      rcases Nat.lt_or_ge j c with hj | hj
      · rw [rowN_get hj, splice_get_in _ _ _ _ (by rw [mendL_length]; omega) (by rw [mendL_length]; omega)]
      · rw [List.getElem?_eq_none (by rw [rowN_len hsl hk]; exact hj), List.getElem?_eq_none (by rw [mendL_length]; omega)]
    rw [e]
    exact mend_ok M
  · rw [rowN_ext hsl hl hk hk (fun j hj => ?_)]
    · exact hok k hk hkn
    · refine splice_get_out _ _ _ _ (by rw [mendL_length]; omega) ?_
      rw [mendL_length, hm]
      rcases Nat.lt_or_gt_of_ne hkn with h1 | h1
      · exact Or.inl (place_lt h1 hj)
      · right
        have := place_le (n := n) (r := k) (c := c) h1
        omega
theorem GridOk.mend {r c : Nat} {L M : List C5} {n : Nat} (h : GridOk r c L) (hl : L.length = r * c) (hM : M.length = r * c) (hn : n < r) (hmay : AllMay M) (hfar : ∀ i, i < n * c ∨ n * c + c ≤ i → M[i]? = L[i]?) : GridOk r c (mendRow c M n) := by
  refine row_ok hmay (fun k hk hkn => ?_) hM hn (hmay.part _ _) (rowN_len hM hn)
  rw [rowN_ext hM hl hk hk (fun j hj => hfar _ ?_)]
  · exact h.ok k hk
  · rcases Nat.lt_or_gt_of_ne hkn with h1 | h1
    · exact Or.inl (place_lt h1 hj)
    · right
      have := place_le (n := n) (r := k) (c := c) h1
      omega
theorem rep_row (c m : Nat) (x : C5) (hx : x.w = 0) {l : List C5} (h : ∀ y ∈ l, y = x) : RowOk l := narrow_ok fun y hy => by rw [h y hy]; exact hx
theorem GridOk.rep {x : C5} (hx : MayC x) (hw : x.w = 0) (r c m : Nat) : GridOk r c (List.replicate m x) :=
  ⟨AllMay.rep hx m, fun n hn => rep_row c m x hw fun y hy => List.eq_of_mem_replicate (List.mem_of_mem_drop (List.mem_of_mem_take hy))⟩
theorem GridOk.put {r c : Nat} {L : List C5} (h : GridOk r c L) (hl : L.length = r * c) {n j : Nat} (hn : n < r) {x : C5} (hx : MayC x) : GridOk r c (putL c L n j x) := by
  unfold putL
  refine h.row hl hn ?_ (by rw [laid_length]; exact rowN_len hl hn)
  have hp := h.may.part (n * c) c
  unfold laid
  split
  · split
    · exact (hp.set _ hx).set _ (mayC_blank (mayC_iff.1 hx).1)
    · exact (hp.set _ hx).set _ (mayC_right hx)
  · exact hp.set _ hx
theorem GridOk.erase {r c : Nat} {L : List C5} (h : GridOk r c L) (hl : L.length = r * c) (row p q a0 a1 a2 : Int) {m : Bool} (hm : PB.cell_MayAttr.f a0 a1 a2 = some m) : GridOk r c (eraseG r c L row p q a2 m) := by
  unfold eraseG
  split
  · rename_i ho
    simp only [eraseOk, Bool.and_eq_true, decide_eq_true_eq] at ho
    obtain ⟨⟨⟨h1, h2⟩, h3⟩, rfl⟩ := ho
    obtain ⟨n, rfl⟩ := Int.eq_ofNat_of_zero_le h1
    obtain ⟨x, hx⟩ := Int.eq_ofNat_of_zero_le (show 0 ≤ max p 0 by omega)
    obtain ⟨y, hy⟩ := Int.eq_ofNat_of_zero_le (show 0 ≤ min q (c : Int) by omega)
    rw [hx, hy] at h3
    rw [hx, hy, Int.toNat_natCast, Int.toNat_natCast, Int.toNat_natCast]
    have hn : n < r := by omega
    have hle := place_le (c := c) hn
    have hfit : n * c + x + (List.replicate (y - x) (blankC a2)).length ≤ L.length := by rw [List.length_replicate]; omega
    unfold eraseL
    refine h.mend hl (by rw [splice_length _ _ _ hfit, hl]) hn (h.may.spl (AllMay.rep (mayC_blank hm) _) _) (fun i hi => splice_get_out _ _ _ _ hfit ?_)
    rw [List.length_replicate]
    omega
  · exact h
theorem may_up {L : List C5} (h : AllMay L) {x : C5} (hx : MayC x) (o len k : Nat) : AllMay (upL L o len k x) := (h.spl (h.part _ _) _).spl (AllMay.rep hx _) _
theorem may_down {L : List C5} (h : AllMay L) {x : C5} (hx : MayC x) (o len k : Nat) : AllMay (downL L o len k x) := (h.spl (h.part _ _) _).spl (AllMay.rep hx _) _
theorem GridOk.shift {r c : Nat} {L : List C5} (h : GridOk r c L) (hl : L.length = r * c) (row col d a0 a1 a2 : Int) {m : Bool} (hm : PB.cell_MayAttr.f a0 a1 a2 = some m) : GridOk r c (shiftG r c L row col d a2 m) := by
  unfold shiftG
  split
  · rename_i ho
    simp only [isB, Bool.and_eq_true, decide_eq_true_eq] at ho
    obtain ⟨⟨h1, h2, h3, h4⟩, rfl⟩ := ho
    obtain ⟨n, rfl⟩ := Int.eq_ofNat_of_zero_le h1
    obtain ⟨j, rfl⟩ := Int.eq_ofNat_of_zero_le h3
    rw [Int.toNat_natCast, Int.toNat_natCast]
    have hn : n < r := by omega
    have hle := place_le (c := c) hn
    unfold moveL
    split
    · obtain ⟨k, hk⟩ : ∃ k : Nat, (min d (c - j : Nat)).toNat = k := ⟨_, rfl⟩
      rw [hk]
      refine h.mend hl (by rw [downL_length _ (by omega) (by omega), hl]) hn (may_down h.may (mayC_blank hm) _ _ _) (fun i hi => ?_)
      rw [downL_get _ (by omega) (by omega)]
      rcases hi with hi | hi
      · rw [if_pos (by omega)]
      · rw [if_neg (by omega), if_neg (by omega), if_neg (by omega)]
    · obtain ⟨k, hk⟩ : ∃ k : Nat, (min (-d) (c - j : Nat)).toNat = k := ⟨_, rfl⟩
      rw [hk]
      refine h.mend hl (by rw [upL_length _ (by omega) (by omega), hl]) hn (may_up h.may (mayC_blank hm) _ _ _) (fun i hi => ?_)
      rw [upL_get _ (by omega) (by omega)]
      rcases hi with hi | hi
      · rw [if_pos (by omega)]
      · rw [if_neg (by omega), if_neg (by omega), if_neg (by omega)]
  · exact h
theorem rep_ok {c : Nat} {L : List C5} {n : Nat} {x : C5} (hx : x.w = 0) (h : ∀ j, j < c → L[n * c + j]? = some x) : RowOk (rowN c L n) := narrow_ok fun y hy => by
  obtain ⟨j, hj⟩ := List.mem_iff_getElem?.1 hy
  have hjc : j < c := by
    have h1 := (List.getElem?_eq_some_iff.1 hj).1
    unfold rowN at h1
    rw [List.length_take] at h1
    omega
  rw [rowN_get hjc, h j hjc] at hj
  rw [← Option.some.inj hj]
  exact hx
theorem scroll_ok_up {r c : Nat} {L : List C5} (h : GridOk r c L) (hl : L.length = r * c) {t hh k : Nat} (ht : t + hh ≤ r) (hk : k ≤ hh) {x : C5} (hx : MayC x) (hw : x.w = 0) : GridOk r c (upL L (t * c) (hh * c) (k * c) x) := by
  have e1 : t * c + hh * c ≤ L.length := by rw [hl, ← Nat.add_mul]; exact Nat.mul_le_mul_right c ht
  have e2 : k * c ≤ hh * c := Nat.mul_le_mul_right c hk
  have e3 : hh * c - k * c = (hh - k) * c := by rw [Nat.sub_mul]
  have hul : (upL L (t * c) (hh * c) (k * c) x).length = r * c := by rw [upL_length _ e1 e2, hl]
  refine ⟨may_up h.may hx _ _ _, fun n hn => ?_⟩
  have hg : ∀ j, j < c → (upL L (t * c) (hh * c) (k * c) x)[n * c + j]? = if n < t then L[n * c + j]? else if n < t + (hh - k) then L[(n + k) * c + j]? else if n < t + hh then some x else L[n * c + j]? := by
    intro j hj
    rw [upL_get x e1 e2, e3, ← Nat.add_mul, ← Nat.add_mul]
    have key : ∀ m, (n * c + j < m * c ↔ n < m) := fun m => by
      constructor
      · intro h1
        rcases Nat.lt_or_ge n m with h2 | h2
        · exact h2
        · have := Nat.mul_le_mul_right c h2
          omega
      · intro h1
        exact place_lt h1 hj
    simp only [key]
    rw [show n * c + j + k * c = (n + k) * c + j by rw [Nat.add_mul]; omega]
  by_cases c1 : n < t
  · rw [rowN_ext hul hl hn hn (fun j hj => by rw [hg j hj, if_pos c1])]
    exact h.ok n hn
  by_cases c2 : n < t + (hh - k)
  · rw [rowN_ext hul hl hn (show n + k < r by omega) (fun j hj => by rw [hg j hj, if_neg c1, if_pos c2])]
    exact h.ok _ (by omega)
  by_cases c3 : n < t + hh
  · exact rep_ok hw (fun j hj => by rw [hg j hj, if_neg c1, if_neg c2, if_pos c3])
  · rw [rowN_ext hul hl hn hn (fun j hj => by rw [hg j hj, if_neg c1, if_neg c2, if_neg c3])]
    exact h.ok n hn
theorem scroll_ok_down {r c : Nat} {L : List C5} (h : GridOk r c L) (hl : L.length = r * c) {t hh k : Nat} (ht : t + hh ≤ r) (hk : k ≤ hh) {x : C5} (hx : MayC x) (hw : x.w = 0) : GridOk r c (downL L (t * c) (hh * c) (k * c) x) := by
  have e1 : t * c + hh * c ≤ L.length := by rw [hl, ← Nat.add_mul]; exact Nat.mul_le_mul_right c ht
  have e2 : k * c ≤ hh * c := Nat.mul_le_mul_right c hk
  have hul : (downL L (t * c) (hh * c) (k * c) x).length = r * c := by rw [downL_length _ e1 e2, hl]
  refine ⟨may_down h.may hx _ _ _, fun n hn => ?_⟩
  have hg : ∀ j, j < c → (downL L (t * c) (hh * c) (k * c) x)[n * c + j]? = if n < t then L[n * c + j]? else if n < t + k then some x else if n < t + hh then L[(n - k) * c + j]? else L[n * c + j]? := by
    intro j hj
    rw [downL_get x e1 e2, ← Nat.add_mul, ← Nat.add_mul]
    have key : ∀ m, (n * c + j < m * c ↔ n < m) := fun m => by
      constructor
      · intro h1
        rcases Nat.lt_or_ge n m with h2 | h2
        · exact h2
        · have := Nat.mul_le_mul_right c h2
          omega
      · intro h1
        exact place_lt h1 hj
    simp only [key]
    by_cases c1 : n < t
    · rw [if_pos c1, if_pos c1]
    by_cases c2 : n < t + k
    · rw [if_neg c1, if_neg c1, if_pos c2, if_pos c2]
    rw [show n * c + j - k * c = (n - k) * c + j by
      have := Nat.mul_le_mul_right c (show k ≤ n by omega)
      rw [Nat.sub_mul]; omega]
  by_cases c1 : n < t
  · rw [rowN_ext hul hl hn hn (fun j hj => by rw [hg j hj, if_pos c1])]
    exact h.ok n hn
  by_cases c2 : n < t + k
  · exact rep_ok hw (fun j hj => by rw [hg j hj, if_neg c1, if_pos c2])
  by_cases c3 : n < t + hh
  · rw [rowN_ext hul hl hn (show n - k < r by omega) (fun j hj => by rw [hg j hj, if_neg c1, if_neg c2, if_pos c3])]
    exact h.ok _ (by omega)
  · rw [rowN_ext hul hl hn hn (fun j hj => by rw [hg j hj, if_neg c1, if_neg c2, if_neg c3])]
    exact h.ok n hn
theorem GridOk.scroll {r c : Nat} {L : List C5} (h : GridOk r c L) (hl : L.length = r * c) (top bot d a0 a1 a2 : Int) {m : Bool} (hm : PB.cell_MayAttr.f a0 a1 a2 = some m) : GridOk r c (scrollG r c L top bot d a2 m) := by
  unfold scrollG
  split
  · rename_i ho
    simp only [scrollOk, Bool.and_eq_true, decide_eq_true_eq] at ho
    obtain ⟨⟨⟨h1, h2⟩, h3⟩, rfl⟩ := ho
    unfold scrollL
    split
    · exact scroll_ok_up h hl (by omega) (by omega) (mayC_blank hm) rfl
    · exact scroll_ok_down h hl (by omega) (by omega) (mayC_blank hm) rfl
  · exact h
theorem GridOk.fill {r c : Nat} {L : List C5} (h : GridOk r c L) {x : C5} {m : Bool} (hm : PB.cell_May.f 9 x.r x.f x.g x.b x.w = some m) : GridOk r c (fillG L x m) := by
  unfold fillG
  split
  · rename_i ho
    rw [Bool.and_eq_true] at ho
    obtain ⟨rfl, hw⟩ := ho
    exact GridOk.rep hm (beq_iff_eq.1 hw) _ _ _
  · exact h
theorem GridOk.resize {r c r2 c2 : Nat} {L : List C5} (h : GridOk r c L) (hl : L.length = r * c) : ∀ m, m ≤ min r r2 → GridOk r2 c2 (resTo c r2 c2 L m)
  | 0, _ => GridOk.rep mayC_blank0 rfl _ _ _
  | m + 1, hm => by
    have ih := GridOk.resize (r2 := r2) (c2 := c2) h hl m (by omega)
    have hM := resTo_length (c2 := c2) (r2 := r2) hl m (by omega)
    have e1 := place_le (n := m) (r := r) (c := c) (by omega)
    have e2 := place_le (n := m) (r := r2) (c := c2) (by omega)
    have e3 : ((L.drop (m * c)).take (min c c2)).length = min c c2 := part_length L (m * c) (min c c2) (by omega)
    refine ih.mend hM (by rw [splice_length _ _ _ (by omega), hM]) (by omega) (ih.may.spl (h.may.part _ _) _) (fun i hi => splice_get_out _ _ _ _ (by omega) (by omega))
end Go.Proofs.YtcfndcjbgalnpaaDoor.Hand
namespace Go.Proofs.YtcfndcjbgalnpaaDoor.Hand
open Go.RowKit Go.Proofs.YtcfndcjbgalnpaaDoorW.PrintWords Go.Proofs.YtcfndcjbgalnpaaDoorW.PrintLast
structure O9 where
  kd : Int
  row : Int
  col : Int
  n : Int
  x : C5
def kO : Kd O9 := Kd.iso (Kd.pair (Kd.int .i64) (Kd.pair (Kd.int .i64) (Kd.pair (Kd.int .i64) (Kd.pair (Kd.int .i64) (Kd.pair (Kd.int .i32) (Kd.pair (Kd.pair (Kd.int .i64) (Kd.pair (Kd.int .i64) (Kd.int .i64))) (Kd.int .i64))))))) (fun o => (o.kd, o.row, o.col, o.n, o.x.r, (o.x.f, o.x.g, o.x.b), o.x.w))
def O9.vs (o : O9) : List Value := [.int .i64 o.kd, .int .i64 o.row, .int .i64 o.col, .int .i64 o.n, .int .i32 o.x.r, .int .i64 o.x.f, .int .i64 o.x.g, .int .i64 o.x.b, .int .i64 o.x.w]
theorem kO_K {w : World} {o : O9} {cs : List Value} (h : kO.K w o cs) : cs = o.vs := by
  obtain ⟨_, _, rfl, h0, _, _, rfl, h1, _, _, rfl, h2, _, _, rfl, h3, _, _, rfl, h4, _, _, rfl, ⟨_, _, rfl, h5, _, _, rfl, h6, h7⟩, h8⟩ := h
  have h0 : _ = [_] := h0
  have h1 : _ = [_] := h1
  have h2 : _ = [_] := h2
  have h3 : _ = [_] := h3
  have h4 : _ = [_] := h4
  have h5 : _ = [_] := h5
  have h6 : _ = [_] := h6
  have h7 : _ = [_] := h7
  have h8 : _ = [_] := h8
  subst h0 h1 h2 h3 h4 h5 h6 h7 h8
  rfl
theorem at_op {w : World} {A : Option Addr} {m : Nat} {l : List O9} (h : Kd.C kO w A m l) {i : Nat} {o : O9} (ho : l[i]? = some o) : ∃ ad, A = some ad ∧ ∀ j v, o.vs[j]? = some v → w.cell? (ad.add (i * 9 + j)) = some v := by
  obtain ⟨h1, h2, h3⟩ := h
  have hi := (List.getElem?_eq_some_iff.1 ho).1
  obtain ⟨ad, e, hc⟩ := h3 (by omega)
  obtain ⟨cs, _, hk, hcell⟩ := hc i o ho
  rw [kO_K hk] at hcell
  exact ⟨ad, e, hcell⟩
theorem add_some (a : Addr) (k : Nat) : a.add (k + 1) = ⟨a.block, a.off + (k + 1), none⟩ := by
  unfold Addr.add
  split
  · next h => exact absurd h (by omega)
  · rfl
theorem at_op9 {w : World} {A : Option Addr} {m : Nat} {l : List O9} (h : Kd.C kO w A m l) {i : Nat} {o : O9} (ho : l[i]? = some o) : ∃ ad, A = some ad ∧ w.cell? (ad.add (i * 9)) = some (.int .i64 o.kd) ∧
    w.cell? ⟨(ad.add (i * 9)).block, (ad.add (i * 9)).off + 1, none⟩ = some (.int .i64 o.row) ∧ w.cell? ⟨(ad.add (i * 9)).block, (ad.add (i * 9)).off + 2, none⟩ = some (.int .i64 o.col) ∧
    w.cell? ⟨(ad.add (i * 9)).block, (ad.add (i * 9)).off + 3, none⟩ = some (.int .i64 o.n) ∧ w.cell? ⟨(ad.add (i * 9)).block, (ad.add (i * 9)).off + 4, none⟩ = some (.int .i32 o.x.r) ∧
    w.cell? ⟨(ad.add (i * 9)).block, (ad.add (i * 9)).off + 5, none⟩ = some (.int .i64 o.x.f) ∧ w.cell? ⟨(ad.add (i * 9)).block, (ad.add (i * 9)).off + 6, none⟩ = some (.int .i64 o.x.g) ∧
    w.cell? ⟨(ad.add (i * 9)).block, (ad.add (i * 9)).off + 7, none⟩ = some (.int .i64 o.x.b) ∧ w.cell? ⟨(ad.add (i * 9)).block, (ad.add (i * 9)).off + 8, none⟩ = some (.int .i64 o.x.w) := by
  obtain ⟨ad, e, hx⟩ := at_op h ho
  refine ⟨ad, e, hx 0 _ rfl, ?_, ?_, ?_, ?_, ?_, ?_, ?_, ?_⟩
  · rw [← add_some, Addr.add_add]; exact hx 1 _ rfl
  · rw [← add_some, Addr.add_add]; exact hx 2 _ rfl
  · rw [← add_some, Addr.add_add]; exact hx 3 _ rfl
  · rw [← add_some, Addr.add_add]; exact hx 4 _ rfl
  · rw [← add_some, Addr.add_add]; exact hx 5 _ rfl
  · rw [← add_some, Addr.add_add]; exact hx 6 _ rfl
  · rw [← add_some, Addr.add_add]; exact hx 7 _ rfl
  · rw [← add_some, Addr.add_add]; exact hx 8 _ rfl
@[reducible] def opO (o : O9) : Obj := .cells #[.int .i64 o.kd, .int .i64 o.row, .int .i64 o.col, .int .i64 o.n, .int .i32 o.x.r, .int .i64 o.x.f, .int .i64 o.x.g, .int .i64 o.x.b, .int .i64 o.x.w] 47 (0, 0)
section
variable {ops : Array Oper} {rest : List Oper} {o : Oper} {a : Act} {Q : Exit → Act → World → Prop} {W : World}
end
theorem put_any {w : World} {base g b r c : Nat} {L : List C5} (h : GridAt w base g b r c L) (hT : TabW w) (row col : Int) (x : C5) (m : Bool) (hm : PB.cell_May.f 9 x.r x.f x.g x.b x.w = some m) :
    Calls Tryd.prog 12 #[.pointer (some ⟨g, 0, none⟩), .int .i64 row, .int .i64 col, .agg #[.int .i32 x.r, .int .i64 x.f, .int .i64 x.g, .int .i64 x.b, .int .i64 x.w]] w (fun e w' => e = .returned (.bool (putOk r c row col x m)) ∧ RowAt w' b (putG r c L row col x m) ∧ w.grownBy w' (some b)) := by
  cases ho : putOk r c row col x m with
  | false =>
    refine (put_no h hT row col x 9 m hm ho).mono ?_
    rintro e w1 ⟨rfl, hb⟩
    refine ⟨rfl, ?_, grown_of_none hb⟩
    unfold putG
    rw [ho, if_neg (by decide)]
    exact h.row.below hb
  | true =>
    have ho2 := ho
    simp only [putOk, isB, Bool.and_eq_true, decide_eq_true_eq] at ho2
    obtain ⟨⟨⟨h1, h2, h3, h4⟩, rfl⟩, h5⟩ := ho2
    obtain ⟨n, rfl⟩ := Int.eq_ofNat_of_zero_le h1
    obtain ⟨j, rfl⟩ := Int.eq_ofNat_of_zero_le h3
    refine (put_yes h hT n j (by omega) (by omega) x 9 hm (by simpa using h5)).mono ?_
    rintro e w1 ⟨rfl, hR, hg⟩
    refine ⟨rfl, ?_, hg⟩
    unfold putG
    rw [ho, if_pos rfl, Int.toNat_natCast, Int.toNat_natCast]
    exact hR
def resOk (rows cols : Int) : Bool := decide (1 ≤ rows ∧ rows ≤ 60 ∧ 1 ≤ cols ∧ cols ≤ 200)
theorem resize_any {w : World} {base g b r c : Nat} {L : List C5} (h : GridAt w base g b r c L) (rows cols : Int) :
    Calls Tryd.prog 17 #[.pointer (some ⟨g, 0, none⟩), .int .i64 rows, .int .i64 cols] w (fun e w' => ∃ v : Int, e = .returned (.int .i64 v) ∧ v = (if resOk rows cols = true then 0 else 1) ∧ ∃ b' r' c' L', GridAt w' base g b' r' c' L' ∧ w.grownBy w' (some g) ∧ (b' = b ∨ w.heap.size ≤ b') ∧
      (if resOk rows cols = true then r' = rows.toNat ∧ c' = cols.toNat ∧ L' = resTo c r' c' L (min r r') else r' = r ∧ c' = c ∧ L' = L)) := by
  by_cases hok : 1 ≤ rows ∧ rows ≤ 60 ∧ 1 ≤ cols ∧ cols ≤ 200
  · have e : resOk rows cols = true := decide_eq_true hok
    rw [e]
    obtain ⟨r2, rfl⟩ := Int.eq_ofNat_of_zero_le (show 0 ≤ rows by omega)
    obtain ⟨c2, rfl⟩ := Int.eq_ofNat_of_zero_le (show 0 ≤ cols by omega)
    refine (resize_yes h r2 c2 (by omega) (by omega) (by omega) (by omega)).mono ?_
    rintro e w1 ⟨rfl, b', hG, hb, hg⟩
    exact ⟨0, rfl, rfl, b', r2, c2, _, hG, hg, Or.inr hb, by rw [if_pos rfl]; exact ⟨rfl, rfl, rfl⟩⟩
  · have e : resOk rows cols = false := decide_eq_false hok
    rw [e]
    refine (resize_no h rows cols hok).mono ?_
    rintro e w1 ⟨rfl, hb⟩
    exact ⟨1, rfl, rfl, b, r, c, L, h.below hb, grown_of_none hb, Or.inl rfl, by rw [if_neg (by decide)]; exact ⟨rfl, rfl, rfl⟩⟩
theorem GridOk.resized {r c r' c' : Nat} {L L' : List C5} {rows cols : Int} (h : GridOk r c L) (hl : L.length = r * c) (hi : if resOk rows cols = true then r' = rows.toNat ∧ c' = cols.toNat ∧ L' = resTo c r' c' L (min r r') else r' = r ∧ c' = c ∧ L' = L) : GridOk r' c' L' := by
  split at hi
  · obtain ⟨rfl, rfl, rfl⟩ := hi
    exact h.resize hl _ (Nat.le_refl _)
  · obtain ⟨rfl, rfl, rfl⟩ := hi
    exact h
theorem eraseG_length {r c : Nat} {L : List C5} (hl : L.length = r * c) (row p q a2 : Int) (m : Bool) : (eraseG r c L row p q a2 m).length = L.length := by
  unfold eraseG
  split
  · rename_i ho
    simp only [eraseOk, Bool.and_eq_true, decide_eq_true_eq] at ho
    obtain ⟨⟨⟨h1, h2⟩, h3⟩, rfl⟩ := ho
    obtain ⟨n, rfl⟩ := Int.eq_ofNat_of_zero_le h1
    obtain ⟨x, hx⟩ := Int.eq_ofNat_of_zero_le (show 0 ≤ max p 0 by omega)
    obtain ⟨y, hy⟩ := Int.eq_ofNat_of_zero_le (show 0 ≤ min q (c : Int) by omega)
    rw [hx, hy] at h3
    rw [hx, hy, Int.toNat_natCast, Int.toNat_natCast, Int.toNat_natCast]
    have hle := place_le (n := n) (r := r) (c := c) (by omega)
    have hs : (splice L (n * c + x) (List.replicate (y - x) (blankC a2))).length = L.length := splice_length _ _ _ (by rw [List.length_replicate]; omega)
    unfold eraseL
    rw [mendRow_length (hs.trans hl) (by omega), hs]
  · rfl
theorem shiftG_length {r c : Nat} {L : List C5} (hl : L.length = r * c) (row col d a2 : Int) (m : Bool) : (shiftG r c L row col d a2 m).length = L.length := by
  unfold shiftG
  split
  · rename_i ho
    simp only [isB, Bool.and_eq_true, decide_eq_true_eq] at ho
    obtain ⟨⟨h1, h2, h3, h4⟩, rfl⟩ := ho
    obtain ⟨n, rfl⟩ := Int.eq_ofNat_of_zero_le h1
    obtain ⟨j, rfl⟩ := Int.eq_ofNat_of_zero_le h3
    rw [Int.toNat_natCast, Int.toNat_natCast]
    have hle := place_le (n := n) (r := r) (c := c) (by omega)
    unfold moveL
    split
    · have hs := downL_length (L := L) (o := n * c + j) (len := c - j) (k := (min d (c - j : Nat)).toNat) (blankC a2) (by omega) (by omega)
      rw [mendRow_length (hs.trans hl) (by omega), hs]
    · have hs := upL_length (L := L) (o := n * c + j) (len := c - j) (k := (min (-d) (c - j : Nat)).toNat) (blankC a2) (by omega) (by omega)
      rw [mendRow_length (hs.trans hl) (by omega), hs]
  · rfl
theorem scrollG_length {r c : Nat} {L : List C5} (hl : L.length = r * c) (top bot d a2 : Int) (m : Bool) : (scrollG r c L top bot d a2 m).length = L.length := by
  unfold scrollG
  split
  · rename_i ho
    simp only [scrollOk, Bool.and_eq_true, decide_eq_true_eq] at ho
    obtain ⟨⟨⟨h1, h2⟩, h3⟩, rfl⟩ := ho
    obtain ⟨t, ht⟩ : ∃ t, top.toNat = t := ⟨_, rfl⟩
    obtain ⟨h, hh⟩ : ∃ h, (bot + 1 - top).toNat = h := ⟨_, rfl⟩
    rw [ht, hh]
    have e1 : t * c + h * c ≤ L.length := by rw [hl, ← Nat.add_mul]; exact Nat.mul_le_mul_right c (by omega)
    unfold scrollL
    split
    · exact upL_length _ e1 (Nat.mul_le_mul_right c (by omega))
    · exact downL_length _ e1 (Nat.mul_le_mul_right c (by omega))
  · rfl
theorem fillG_length (L : List C5) (x : C5) (m : Bool) : (fillG L x m).length = L.length := by
  unfold fillG
  split
  · exact List.length_replicate ..
  · rfl
theorem GridOk.putG {r c : Nat} {L : List C5} (h : GridOk r c L) (hl : L.length = r * c) (row col : Int) (x : C5) {m : Bool} (hm : PB.cell_May.f 9 x.r x.f x.g x.b x.w = some m) : GridOk r c (putG r c L row col x m) := by
  unfold Hand.putG
  split
  · rename_i ho
    simp only [putOk, isB, Bool.and_eq_true, decide_eq_true_eq] at ho
    obtain ⟨⟨⟨h1, h2, h3, h4⟩, rfl⟩, h5⟩ := ho
    exact h.put hl (by omega) hm
  · exact h
end Go.Proofs.YtcfndcjbgalnpaaDoor.Hand
namespace Go.Proofs.YtcfndcjbgalnpaaDoor.PD
open Go.RowKit Go.Proofs.YtcfndcjbgalnpaaDoorW.PrintWords Go.Proofs.YtcfndcjbgalnpaaDoorW.PrintLast Go.Proofs.YtcfndcjbgalnpaaDoorW.PrintMore
attribute [local go_sem] max2_int min2_int max_two min_two max_three min_three max_four min_four
set_option linter.unusedVariables false
set_option linter.unusedSimpArgs false
def errW : Option Int → Value
  | none => .nilIface
  | some c => .iface 0 (.int .i64 c)
theorem errW_none : errW none = .nilIface := rfl
theorem errW_some (c : Int) : errW (some c) = .iface 0 (.int .i64 c) := rfl
end Go.Proofs.YtcfndcjbgalnpaaDoor.PD
namespace Go.Proofs.YtcfndcjbgalnpaaDoor.PD
open Go.RowKit Go.Proofs.YtcfndcjbgalnpaaDoorW.PrintWords Go.Proofs.YtcfndcjbgalnpaaDoorW.PrintLast Go.Proofs.YtcfndcjbgalnpaaDoorW.PrintMore
attribute [local go_sem] max2_int min2_int max_two min_two max_three min_three max_four min_four
set_option linter.unusedVariables false
set_option linter.unusedSimpArgs false
def tikref6_colour.f (a0 : Int) : Option (Bool) := if a0 ≥ 0 then (if a0 ≤ 256 then (some true) else (if a0 ≥ 16777216 then (some (decide (a0 < 33554432))) else (some false))) else (if a0 ≥ 16777216 then (some (decide (a0 < 33554432))) else (some false))
set_option maxHeartbeats 8000000 in
set_option maxRecDepth 100000 in
theorem tikref6_colour.calls (a0 : Int) (r : Bool) (w : World) (h : tikref6_colour.f a0 = some r) :
    Calls Tryd.prog 60 #[.int .i64 a0] w fun e w' => e = .returned (.bool r) ∧ Drawn0 w w' := by
  have H : (if a0 ≥ 0 then (if a0 ≤ 256 then (some true) else (if a0 ≥ 16777216 then (some (decide (a0 < 33554432))) else (some false))) else (if a0 ≥ 16777216 then (some (decide (a0 < 33554432))) else (some false))) = some r := h
  clear h
  by_cases c2 : a0 ≥ 0
  · rw [if_pos c2] at H
    have c2b0 : decide (0 ≤ a0) = true := decide_eq_true c2
    clear c2
    by_cases c3 : a0 ≤ 256
    · rw [if_pos c3] at H
      have c3b0 : decide (a0 ≤ 256) = true := decide_eq_true c3
      clear c3
      obtain rfl := Option.some.inj H
      go_enter Tryd.func60, Tryd.ntmps60
      go_wp2
      go_ret
      exact ⟨by first | rfl | (simp; done) | (simp [*]; done), by repeat (first | exact Drawn0.refl _ | apply Drawn0.step)⟩
    · rw [if_neg c3] at H
      have c3b0 : decide (a0 ≤ 256) = false := decide_eq_false c3
      clear c3
      by_cases c4 : a0 ≥ 16777216
      · rw [if_pos c4] at H
        have c4b0 : decide (16777216 ≤ a0) = true := decide_eq_true c4
        clear c4
        obtain rfl := Option.some.inj H
        go_enter Tryd.func60, Tryd.ntmps60
        go_wp2
        go_ret
        exact ⟨by first | rfl | (simp; done) | (simp [*]; done), by repeat (first | exact Drawn0.refl _ | apply Drawn0.step)⟩
      · rw [if_neg c4] at H
        have c4b0 : decide (16777216 ≤ a0) = false := decide_eq_false c4
        clear c4
        obtain rfl := Option.some.inj H
        go_enter Tryd.func60, Tryd.ntmps60
        go_wp2
        go_ret
        exact ⟨by first | rfl | (simp; done) | (simp [*]; done), by repeat (first | exact Drawn0.refl _ | apply Drawn0.step)⟩
  · rw [if_neg c2] at H
    have c2b0 : decide (0 ≤ a0) = false := decide_eq_false c2
    clear c2
    by_cases c5 : a0 ≥ 16777216
    · rw [if_pos c5] at H
      have c5b0 : decide (16777216 ≤ a0) = true := decide_eq_true c5
      clear c5
      obtain rfl := Option.some.inj H
      go_enter Tryd.func60, Tryd.ntmps60
      go_wp2
      go_ret
      exact ⟨by first | rfl | (simp; done) | (simp [*]; done), by repeat (first | exact Drawn0.refl _ | apply Drawn0.step)⟩
    · rw [if_neg c5] at H
      have c5b0 : decide (16777216 ≤ a0) = false := decide_eq_false c5
      clear c5
      obtain rfl := Option.some.inj H
      go_enter Tryd.func60, Tryd.ntmps60
      go_wp2
      go_ret
      exact ⟨by first | rfl | (simp; done) | (simp [*]; done), by repeat (first | exact Drawn0.refl _ | apply Drawn0.step)⟩
def tikref6_MayAttr.f (a0_0 : Int) (a0_1 : Int) (a0_2 : Int) : Option (Bool) := if a0_0 ≥ 0 then (if a0_0 ≤ 255 then ((tikref6_colour.f a0_1).bind fun t102 => (if t102 = true then ((tikref6_colour.f a0_2).bind fun t103 => (some t103)) else (some false))) else (some false)) else (some false)
set_option maxHeartbeats 8000000 in
set_option maxRecDepth 100000 in
theorem tikref6_MayAttr.calls (a0_0 : Int) (a0_1 : Int) (a0_2 : Int) (r : Bool) (w : World) (h : tikref6_MayAttr.f a0_0 a0_1 a0_2 = some r) :
    Calls Tryd.prog 55 #[.agg #[.int .i64 a0_0, .int .i64 a0_1, .int .i64 a0_2]] w fun e w' => e = .returned (.bool r) ∧ Below w.heap.size w w' := by
  have hu23 := Tryd.underlying23
  have HB := Aside0.mk (Below.refl w.heap.size w)
  have H : (if a0_0 ≥ 0 then (if a0_0 ≤ 255 then ((tikref6_colour.f a0_1).bind fun t102 => (if t102 = true then ((tikref6_colour.f a0_2).bind fun t103 => (some t103)) else (some false))) else (some false)) else (some false)) = some r := h
  clear h
  by_cases c2 : a0_0 ≥ 0
  · rw [if_pos c2] at H
    have c2b0 : decide (0 ≤ a0_0) = true := decide_eq_true c2
    clear c2
    by_cases c3 : a0_0 ≤ 255
    · rw [if_pos c3] at H
      have c3b0 : decide (a0_0 ≤ 255) = true := decide_eq_true c3
      clear c3
      replace H := Option.bind_eq_some_iff.mp H
      obtain ⟨t102, A40, H⟩ := H
      replace H : (if t102 = true then ((tikref6_colour.f a0_2).bind fun t103 => (some t103)) else (some false)) = some r := H
      have A4 := Aside0.mk A40
      clear A40
      by_cases c5 : t102 = true
      · subst c5
        have H1 : ((tikref6_colour.f a0_2).bind fun t103 => (some t103)) = some r := by rw [if_pos rfl] at H; exact H
        clear H
        have H := H1
        clear H1
        replace H := Option.bind_eq_some_iff.mp H
        obtain ⟨t103, A60, H⟩ := H
        replace H : (some t103) = some r := H
        have A6 := Aside0.mk A60
        clear A60
        obtain rfl := Option.some.inj H
        go_enter Tryd.func55, Tryd.ntmps55
        go_wp2_with (first | ((with_reducible refine gate_dst (N := 1) rfl ?_); refine box_event ?hg (N := 1) ?hd (cs := #[.int .i64 a0_0, .int .i64 a0_1, .int .i64 a0_2]) (t := 23) ?hr ?_; (case hd => rfl); (case hg => rfl); (case hr => first | (go_simp; done) | (go_simp; rfl)); intro gb101 hg w7 hbox hb; have n0_ := Aside0.mk (below_step (by repeat (first | (with_reducible first | exact HB.out | apply below_alloc | apply pw_below_drewN | apply below_drew1) | exact HB.out)) hb); have n1_ := Aside0.mk (hbox); have n2_ := Aside0.mk ((by rw [hg]; exact (below_size (by repeat (first | (with_reducible first | exact HB.out | apply below_alloc | apply pw_below_drewN | apply below_drew1) | exact HB.out))) : w.heap.size ≤ gb101)); have n3_ := Aside0.mk ((by rw [hg]; exact (below_size (by repeat (first | (with_reducible first | exact HB.out | apply below_alloc | apply pw_below_drewN | apply below_drew1) | exact HB.out))) : w.heap.size ≤ gb101)); clear HB; have HB := n0_; have BK101 := n1_; have GW101 := n2_; have GE101 := n3_; clear n0_ n1_ n2_ n3_; clear hb hbox hg; have hcz8_0 : w7.cell? ⟨gb101, 0, none⟩ = some (.int .i64 a0_0) := (blk_cell BK101.out 0).trans rfl; have hcz8_1 : w7.cell? ⟨gb101, 1, none⟩ = some (.int .i64 a0_1) := (blk_cell BK101.out 1).trans rfl; have hcz8_2 : w7.cell? ⟨gb101, 2, none⟩ = some (.int .i64 a0_2) := (blk_cell BK101.out 2).trans rfl; have hfz8_0 := blk_frozen BK101.out 0; have hfz8_1 := blk_frozen BK101.out 1; have hfz8_2 := blk_frozen BK101.out 2) | (go_at_call 60; (with_reducible refine (tikref6_colour.calls a0_1 true _ A4.out).mono ?_); rintro e w' ⟨rfl, ⟨nd, rfl⟩⟩) | (go_at_call 60; (with_reducible refine (tikref6_colour.calls a0_2 t103 _ A6.out).mono ?_); rintro e w' ⟨rfl, ⟨nd, rfl⟩⟩))
        go_ret
        exact ⟨by first | rfl | (simp [errW_none, errW_some] <;> rfl) | (simp [*, errW_none, errW_some] <;> rfl), by repeat (first | (with_reducible first | exact HB.out | apply below_alloc | apply pw_below_drewN | apply below_drew1 | refine below_set ?_ GE101.out) | exact HB.out)⟩
      · replace c5 := Bool.eq_false_iff.mpr c5
        subst c5
        have H1 : (some false) = some r := by rw [if_neg (show ¬ (false = true) by decide)] at H; exact H
        clear H
        have H := H1
        clear H1
        obtain rfl := Option.some.inj H
        go_enter Tryd.func55, Tryd.ntmps55
        go_wp2_with (first | ((with_reducible refine gate_dst (N := 1) rfl ?_); refine box_event ?hg (N := 1) ?hd (cs := #[.int .i64 a0_0, .int .i64 a0_1, .int .i64 a0_2]) (t := 23) ?hr ?_; (case hd => rfl); (case hg => rfl); (case hr => first | (go_simp; done) | (go_simp; rfl)); intro gb101 hg w9 hbox hb; have n0_ := Aside0.mk (below_step (by repeat (first | (with_reducible first | exact HB.out | apply below_alloc | apply pw_below_drewN | apply below_drew1) | exact HB.out)) hb); have n1_ := Aside0.mk (hbox); have n2_ := Aside0.mk ((by rw [hg]; exact (below_size (by repeat (first | (with_reducible first | exact HB.out | apply below_alloc | apply pw_below_drewN | apply below_drew1) | exact HB.out))) : w.heap.size ≤ gb101)); have n3_ := Aside0.mk ((by rw [hg]; exact (below_size (by repeat (first | (with_reducible first | exact HB.out | apply below_alloc | apply pw_below_drewN | apply below_drew1) | exact HB.out))) : w.heap.size ≤ gb101)); clear HB; have HB := n0_; have BK101 := n1_; have GW101 := n2_; have GE101 := n3_; clear n0_ n1_ n2_ n3_; clear hb hbox hg; have hcz10_0 : w9.cell? ⟨gb101, 0, none⟩ = some (.int .i64 a0_0) := (blk_cell BK101.out 0).trans rfl; have hcz10_1 : w9.cell? ⟨gb101, 1, none⟩ = some (.int .i64 a0_1) := (blk_cell BK101.out 1).trans rfl; have hcz10_2 : w9.cell? ⟨gb101, 2, none⟩ = some (.int .i64 a0_2) := (blk_cell BK101.out 2).trans rfl; have hfz10_0 := blk_frozen BK101.out 0; have hfz10_1 := blk_frozen BK101.out 1; have hfz10_2 := blk_frozen BK101.out 2) | (go_at_call 60; (with_reducible refine (tikref6_colour.calls a0_1 false _ A4.out).mono ?_); rintro e w' ⟨rfl, ⟨nd, rfl⟩⟩))
        go_ret
        exact ⟨by first | rfl | (simp [errW_none, errW_some] <;> rfl) | (simp [*, errW_none, errW_some] <;> rfl), by repeat (first | (with_reducible first | exact HB.out | apply below_alloc | apply pw_below_drewN | apply below_drew1 | refine below_set ?_ GE101.out) | exact HB.out)⟩
    · rw [if_neg c3] at H
      have c3b0 : decide (a0_0 ≤ 255) = false := decide_eq_false c3
      clear c3
      obtain rfl := Option.some.inj H
      go_enter Tryd.func55, Tryd.ntmps55
      go_wp2_with (first | ((with_reducible refine gate_dst (N := 1) rfl ?_); refine box_event ?hg (N := 1) ?hd (cs := #[.int .i64 a0_0, .int .i64 a0_1, .int .i64 a0_2]) (t := 23) ?hr ?_; (case hd => rfl); (case hg => rfl); (case hr => first | (go_simp; done) | (go_simp; rfl)); intro gb101 hg w11 hbox hb; have n0_ := Aside0.mk (below_step (by repeat (first | (with_reducible first | exact HB.out | apply below_alloc | apply pw_below_drewN | apply below_drew1) | exact HB.out)) hb); have n1_ := Aside0.mk (hbox); have n2_ := Aside0.mk ((by rw [hg]; exact (below_size (by repeat (first | (with_reducible first | exact HB.out | apply below_alloc | apply pw_below_drewN | apply below_drew1) | exact HB.out))) : w.heap.size ≤ gb101)); have n3_ := Aside0.mk ((by rw [hg]; exact (below_size (by repeat (first | (with_reducible first | exact HB.out | apply below_alloc | apply pw_below_drewN | apply below_drew1) | exact HB.out))) : w.heap.size ≤ gb101)); clear HB; have HB := n0_; have BK101 := n1_; have GW101 := n2_; have GE101 := n3_; clear n0_ n1_ n2_ n3_; clear hb hbox hg; have hcz12_0 : w11.cell? ⟨gb101, 0, none⟩ = some (.int .i64 a0_0) := (blk_cell BK101.out 0).trans rfl; have hcz12_1 : w11.cell? ⟨gb101, 1, none⟩ = some (.int .i64 a0_1) := (blk_cell BK101.out 1).trans rfl; have hcz12_2 : w11.cell? ⟨gb101, 2, none⟩ = some (.int .i64 a0_2) := (blk_cell BK101.out 2).trans rfl; have hfz12_0 := blk_frozen BK101.out 0; have hfz12_1 := blk_frozen BK101.out 1; have hfz12_2 := blk_frozen BK101.out 2))
      go_ret
      exact ⟨by first | rfl | (simp [errW_none, errW_some] <;> rfl) | (simp [*, errW_none, errW_some] <;> rfl), by repeat (first | (with_reducible first | exact HB.out | apply below_alloc | apply pw_below_drewN | apply below_drew1 | refine below_set ?_ GE101.out) | exact HB.out)⟩
  · rw [if_neg c2] at H
    have c2b0 : decide (0 ≤ a0_0) = false := decide_eq_false c2
    clear c2
    obtain rfl := Option.some.inj H
    go_enter Tryd.func55, Tryd.ntmps55
    go_wp2_with (first | ((with_reducible refine gate_dst (N := 1) rfl ?_); refine box_event ?hg (N := 1) ?hd (cs := #[.int .i64 a0_0, .int .i64 a0_1, .int .i64 a0_2]) (t := 23) ?hr ?_; (case hd => rfl); (case hg => rfl); (case hr => first | (go_simp; done) | (go_simp; rfl)); intro gb101 hg w13 hbox hb; have n0_ := Aside0.mk (below_step (by repeat (first | (with_reducible first | exact HB.out | apply below_alloc | apply pw_below_drewN | apply below_drew1) | exact HB.out)) hb); have n1_ := Aside0.mk (hbox); have n2_ := Aside0.mk ((by rw [hg]; exact (below_size (by repeat (first | (with_reducible first | exact HB.out | apply below_alloc | apply pw_below_drewN | apply below_drew1) | exact HB.out))) : w.heap.size ≤ gb101)); have n3_ := Aside0.mk ((by rw [hg]; exact (below_size (by repeat (first | (with_reducible first | exact HB.out | apply below_alloc | apply pw_below_drewN | apply below_drew1) | exact HB.out))) : w.heap.size ≤ gb101)); clear HB; have HB := n0_; have BK101 := n1_; have GW101 := n2_; have GE101 := n3_; clear n0_ n1_ n2_ n3_; clear hb hbox hg; have hcz14_0 : w13.cell? ⟨gb101, 0, none⟩ = some (.int .i64 a0_0) := (blk_cell BK101.out 0).trans rfl; have hcz14_1 : w13.cell? ⟨gb101, 1, none⟩ = some (.int .i64 a0_1) := (blk_cell BK101.out 1).trans rfl; have hcz14_2 : w13.cell? ⟨gb101, 2, none⟩ = some (.int .i64 a0_2) := (blk_cell BK101.out 2).trans rfl; have hfz14_0 := blk_frozen BK101.out 0; have hfz14_1 := blk_frozen BK101.out 1; have hfz14_2 := blk_frozen BK101.out 2))
    go_ret
    exact ⟨by first | rfl | (simp [errW_none, errW_some] <;> rfl) | (simp [*, errW_none, errW_some] <;> rfl), by repeat (first | (with_reducible first | exact HB.out | apply below_alloc | apply pw_below_drewN | apply below_drew1 | refine below_set ?_ GE101.out) | exact HB.out)⟩
def tikref2_Sign.f (a0 : Int) : Option (Bool) := if a0 ≥ 0 then (if a0 < 55296 then (some true) else (if a0 > 57343 then (some (decide (a0 ≤ 1114111))) else (some false))) else (if a0 > 57343 then (some (decide (a0 ≤ 1114111))) else (some false))
set_option maxHeartbeats 8000000 in
set_option maxRecDepth 100000 in
theorem tikref2_Sign.calls (a0 : Int) (r : Bool) (w : World) (h : tikref2_Sign.f a0 = some r) :
    Calls Tryd.prog 61 #[.int .i32 a0] w fun e w' => e = .returned (.bool r) ∧ Drawn0 w w' := by
  have H : (if a0 ≥ 0 then (if a0 < 55296 then (some true) else (if a0 > 57343 then (some (decide (a0 ≤ 1114111))) else (some false))) else (if a0 > 57343 then (some (decide (a0 ≤ 1114111))) else (some false))) = some r := h
  clear h
  by_cases c2 : a0 ≥ 0
  · rw [if_pos c2] at H
    have c2b0 : decide (0 ≤ a0) = true := decide_eq_true c2
    clear c2
    by_cases c3 : a0 < 55296
    · rw [if_pos c3] at H
      have c3b0 : decide (a0 < 55296) = true := decide_eq_true c3
      clear c3
      obtain rfl := Option.some.inj H
      go_enter Tryd.func61, Tryd.ntmps61
      go_wp2
      go_ret
      exact ⟨by first | rfl | (simp; done) | (simp [*]; done), by repeat (first | exact Drawn0.refl _ | apply Drawn0.step)⟩
    · rw [if_neg c3] at H
      have c3b0 : decide (a0 < 55296) = false := decide_eq_false c3
      clear c3
      by_cases c4 : a0 > 57343
      · rw [if_pos c4] at H
        have c4b0 : decide (57343 < a0) = true := decide_eq_true c4
        clear c4
        obtain rfl := Option.some.inj H
        go_enter Tryd.func61, Tryd.ntmps61
        go_wp2
        go_ret
        exact ⟨by first | rfl | (simp; done) | (simp [*]; done), by repeat (first | exact Drawn0.refl _ | apply Drawn0.step)⟩
      · rw [if_neg c4] at H
        have c4b0 : decide (57343 < a0) = false := decide_eq_false c4
        clear c4
        obtain rfl := Option.some.inj H
        go_enter Tryd.func61, Tryd.ntmps61
        go_wp2
        go_ret
        exact ⟨by first | rfl | (simp; done) | (simp [*]; done), by repeat (first | exact Drawn0.refl _ | apply Drawn0.step)⟩
  · rw [if_neg c2] at H
    have c2b0 : decide (0 ≤ a0) = false := decide_eq_false c2
    clear c2
    by_cases c5 : a0 > 57343
    · rw [if_pos c5] at H
      have c5b0 : decide (57343 < a0) = true := decide_eq_true c5
      clear c5
      obtain rfl := Option.some.inj H
      go_enter Tryd.func61, Tryd.ntmps61
      go_wp2
      go_ret
      exact ⟨by first | rfl | (simp; done) | (simp [*]; done), by repeat (first | exact Drawn0.refl _ | apply Drawn0.step)⟩
    · rw [if_neg c5] at H
      have c5b0 : decide (57343 < a0) = false := decide_eq_false c5
      clear c5
      obtain rfl := Option.some.inj H
      go_enter Tryd.func61, Tryd.ntmps61
      go_wp2
      go_ret
      exact ⟨by first | rfl | (simp; done) | (simp [*]; done), by repeat (first | exact Drawn0.refl _ | apply Drawn0.step)⟩
def tikref6_in.f (a0 : Int) (a1 : Int) (a2 : Int) : Option (Bool) := if a0 ≥ a1 then (some (decide (a0 ≤ a2))) else (some false)
set_option maxHeartbeats 8000000 in
set_option maxRecDepth 100000 in
theorem tikref6_in.calls (a0 : Int) (a1 : Int) (a2 : Int) (r : Bool) (w : World) (h : tikref6_in.f a0 a1 a2 = some r) :
    Calls Tryd.prog 62 #[.int .i32 a0, .int .i32 a1, .int .i32 a2] w fun e w' => e = .returned (.bool r) ∧ Drawn0 w w' := by
  have H : (if a0 ≥ a1 then (some (decide (a0 ≤ a2))) else (some false)) = some r := h
  clear h
  by_cases c4 : a0 ≥ a1
  · rw [if_pos c4] at H
    have c4b0 : decide (a1 ≤ a0) = true := decide_eq_true c4
    clear c4
    obtain rfl := Option.some.inj H
    go_enter Tryd.func62, Tryd.ntmps62
    go_wp2
    go_ret
    exact ⟨by first | rfl | (simp; done) | (simp [*]; done), by repeat (first | exact Drawn0.refl _ | apply Drawn0.step)⟩
  · rw [if_neg c4] at H
    have c4b0 : decide (a1 ≤ a0) = false := decide_eq_false c4
    clear c4
    obtain rfl := Option.some.inj H
    go_enter Tryd.func62, Tryd.ntmps62
    go_wp2
    go_ret
    exact ⟨by first | rfl | (simp; done) | (simp [*]; done), by repeat (first | exact Drawn0.refl _ | apply Drawn0.step)⟩
def tikref6_Width.j0 : Nat → Int → Bool → Option (Int)
  | 0, _, _ => none
  | k + 1, x0, x3 => if x3 = true then (some 0) else ((tikref6_in.f x0 4352 4447).bind fun t108 => (if t108 = true then (some 2) else ((tikref6_in.f x0 11904 42191).bind fun t109 => (if t109 = true then (some 2) else ((tikref6_in.f x0 44032 55203).bind fun t110 => (if t110 = true then (some 2) else ((tikref6_in.f x0 63744 64255).bind fun t111 => (if t111 = true then (some 2) else ((tikref6_in.f x0 65072 65135).bind fun t112 => (if t112 = true then (some 2) else ((tikref6_in.f x0 65280 65376).bind fun t113 => (if t113 = true then (some 2) else ((tikref6_in.f x0 65504 65510).bind fun t114 => (if t114 = true then (some 2) else ((tikref6_in.f x0 127744 128591).bind fun t115 => (if t115 = true then (some 2) else ((tikref6_in.f x0 129280 129535).bind fun t116 => (if t116 = true then (some 2) else ((tikref6_in.f x0 131072 262141).bind fun t117 => (if t117 = true then (some 2) else (some 1)))))))))))))))))))))
def tikref6_Width.f (k : Nat) (a0 : Int) : Option (Int) := (tikref2_Sign.f a0).bind fun t104 => (if t104 = true then ((tikref6_in.f a0 0 31).bind fun t105 => (if t105 = true then (tikref6_Width.j0 k a0 t105) else ((tikref6_in.f a0 127 159).bind fun t106 => (if t106 = true then (tikref6_Width.j0 k a0 t106) else ((tikref6_in.f a0 768 879).bind fun t107 => (tikref6_Width.j0 k a0 t107)))))) else (tikref6_Width.j0 k a0 (!t104)))
set_option maxHeartbeats 8000000 in
set_option maxRecDepth 100000 in
theorem tikref6_Width.calls (k : Nat) (a0 : Int) (r : Int) (w : World) (h : tikref6_Width.f k a0 = some r) :
    Calls Tryd.prog 58 #[.int .i32 a0] w fun e w' => e = .returned (.int .i64 r) ∧ Drawn0 w w' := by
  have H : ((tikref2_Sign.f a0).bind fun t104 => (if t104 = true then ((tikref6_in.f a0 0 31).bind fun t105 => (if t105 = true then (tikref6_Width.j0 k a0 t105) else ((tikref6_in.f a0 127 159).bind fun t106 => (if t106 = true then (tikref6_Width.j0 k a0 t106) else ((tikref6_in.f a0 768 879).bind fun t107 => (tikref6_Width.j0 k a0 t107)))))) else (tikref6_Width.j0 k a0 (!t104)))) = some r := h
  clear h
  replace H := Option.bind_eq_some_iff.mp H
  obtain ⟨t104, A20, H⟩ := H
  replace H : (if t104 = true then ((tikref6_in.f a0 0 31).bind fun t105 => (if t105 = true then (tikref6_Width.j0 k a0 t105) else ((tikref6_in.f a0 127 159).bind fun t106 => (if t106 = true then (tikref6_Width.j0 k a0 t106) else ((tikref6_in.f a0 768 879).bind fun t107 => (tikref6_Width.j0 k a0 t107)))))) else (tikref6_Width.j0 k a0 (!t104))) = some r := H
  have A2 := Aside0.mk A20
  clear A20
  have HC3 := Aside0.mk H
  clear H
  go_enter Tryd.func58, Tryd.ntmps58
  go_upto_if 3 with (first | ((with_reducible refine gate_callee (f := 61) rfl ?_); refine goesL_ (some 5) rfl rfl Tryd.func61 (by kernel_rfl) rfl #[.int .i32 a0] rfl (by (try simp only [List.map_toArray, List.map_cons, List.map_nil]); first | done | rfl | (simp only [List.length_drop, List.length_take]; rfl)) ?_; (with_reducible refine (tikref2_Sign.calls a0 t104 _ A2.out).mono ?_); rintro e w' ⟨rfl, ⟨nd, rfl⟩⟩; refine ⟨_, rfl, ?_⟩))
  (try simp only [Act.put, List.setIfInBounds_toArray, List.set_cons_zero, List.set_cons_succ])
  go_cut [3] (fun v3 wc => ∃ (kq : Nat) (x3_2 : Bool), v3 = .bool x3_2 ∧ Aside0 (tikref6_Width.j0 kq a0 x3_2 = some r) ∧ Aside0 (kq ≤ k) ∧ Drawn0 w wc)
  case first =>
    have H := HC3.out
    clear HC3
    by_cases c4 : t104 = true
    · subst c4
      have H1 : ((tikref6_in.f a0 0 31).bind fun t105 => (if t105 = true then (tikref6_Width.j0 k a0 t105) else ((tikref6_in.f a0 127 159).bind fun t106 => (if t106 = true then (tikref6_Width.j0 k a0 t106) else ((tikref6_in.f a0 768 879).bind fun t107 => (tikref6_Width.j0 k a0 t107)))))) = some r := by rw [if_pos rfl] at H; exact H
      clear H
      have H := H1
      clear H1
      replace H := Option.bind_eq_some_iff.mp H
      obtain ⟨t105, A50, H⟩ := H
      replace H : (if t105 = true then (tikref6_Width.j0 k a0 t105) else ((tikref6_in.f a0 127 159).bind fun t106 => (if t106 = true then (tikref6_Width.j0 k a0 t106) else ((tikref6_in.f a0 768 879).bind fun t107 => (tikref6_Width.j0 k a0 t107))))) = some r := H
      have A5 := Aside0.mk A50
      clear A50
      by_cases c6 : t105 = true
      · subst c6
        have H1 : (tikref6_Width.j0 k a0 true) = some r := by rw [if_pos rfl] at H; exact H
        clear H
        have H := H1
        clear H1
        have H' := Aside0.mk H
        clear H
        go_wp2_with (first | ((with_reducible refine gate_callee (f := 62) rfl ?_); refine goesL_ (some 8) rfl rfl Tryd.func62 (by kernel_rfl) rfl #[.int .i32 a0, .int .i32 0, .int .i32 31] rfl (by (try simp only [List.map_toArray, List.map_cons, List.map_nil]); first | done | rfl | (simp only [List.length_drop, List.length_take]; rfl)) ?_; (with_reducible refine (tikref6_in.calls a0 0 31 true _ A5.out).mono ?_); rintro e w' ⟨rfl, ⟨nd, rfl⟩⟩; refine ⟨_, rfl, ?_⟩))
        go_meet
        case rel => exact ⟨_, (true), (by first | rfl | (simp; done) | (simp [*]; done)), H', ⟨by first | omega | exact Nat.le_refl _⟩, by repeat (first | exact Drawn0.refl _ | apply Drawn0.step)⟩
      · replace c6 := Bool.eq_false_iff.mpr c6
        subst c6
        have H1 : ((tikref6_in.f a0 127 159).bind fun t106 => (if t106 = true then (tikref6_Width.j0 k a0 t106) else ((tikref6_in.f a0 768 879).bind fun t107 => (tikref6_Width.j0 k a0 t107)))) = some r := by rw [if_neg (show ¬ (false = true) by decide)] at H; exact H
        clear H
        have H := H1
        clear H1
        replace H := Option.bind_eq_some_iff.mp H
        obtain ⟨t106, A70, H⟩ := H
        replace H : (if t106 = true then (tikref6_Width.j0 k a0 t106) else ((tikref6_in.f a0 768 879).bind fun t107 => (tikref6_Width.j0 k a0 t107))) = some r := H
        have A7 := Aside0.mk A70
        clear A70
        by_cases c8 : t106 = true
        · subst c8
          have H1 : (tikref6_Width.j0 k a0 true) = some r := by rw [if_pos rfl] at H; exact H
          clear H
          have H := H1
          clear H1
          have H' := Aside0.mk H
          clear H
          go_wp2_with (first | ((with_reducible refine gate_callee (f := 62) rfl ?_); refine goesL_ (some 8) rfl rfl Tryd.func62 (by kernel_rfl) rfl #[.int .i32 a0, .int .i32 0, .int .i32 31] rfl (by (try simp only [List.map_toArray, List.map_cons, List.map_nil]); first | done | rfl | (simp only [List.length_drop, List.length_take]; rfl)) ?_; (with_reducible refine (tikref6_in.calls a0 0 31 false _ A5.out).mono ?_); rintro e w' ⟨rfl, ⟨nd, rfl⟩⟩; refine ⟨_, rfl, ?_⟩) | ((with_reducible refine gate_callee (f := 62) rfl ?_); refine goesL_ (some 10) rfl rfl Tryd.func62 (by kernel_rfl) rfl #[.int .i32 a0, .int .i32 127, .int .i32 159] rfl (by (try simp only [List.map_toArray, List.map_cons, List.map_nil]); first | done | rfl | (simp only [List.length_drop, List.length_take]; rfl)) ?_; (with_reducible refine (tikref6_in.calls a0 127 159 true _ A7.out).mono ?_); rintro e w' ⟨rfl, ⟨nd, rfl⟩⟩; refine ⟨_, rfl, ?_⟩))
          go_meet
          case rel => exact ⟨_, (true), (by first | rfl | (simp; done) | (simp [*]; done)), H', ⟨by first | omega | exact Nat.le_refl _⟩, by repeat (first | exact Drawn0.refl _ | apply Drawn0.step)⟩
        · replace c8 := Bool.eq_false_iff.mpr c8
          subst c8
          have H1 : ((tikref6_in.f a0 768 879).bind fun t107 => (tikref6_Width.j0 k a0 t107)) = some r := by rw [if_neg (show ¬ (false = true) by decide)] at H; exact H
          clear H
          have H := H1
          clear H1
          replace H := Option.bind_eq_some_iff.mp H
          obtain ⟨t107, A90, H⟩ := H
          replace H : (tikref6_Width.j0 k a0 t107) = some r := H
          have A9 := Aside0.mk A90
          clear A90
          have H' := Aside0.mk H
          clear H
          go_wp2_with (first | ((with_reducible refine gate_callee (f := 62) rfl ?_); refine goesL_ (some 8) rfl rfl Tryd.func62 (by kernel_rfl) rfl #[.int .i32 a0, .int .i32 0, .int .i32 31] rfl (by (try simp only [List.map_toArray, List.map_cons, List.map_nil]); first | done | rfl | (simp only [List.length_drop, List.length_take]; rfl)) ?_; (with_reducible refine (tikref6_in.calls a0 0 31 false _ A5.out).mono ?_); rintro e w' ⟨rfl, ⟨nd, rfl⟩⟩; refine ⟨_, rfl, ?_⟩) | ((with_reducible refine gate_callee (f := 62) rfl ?_); refine goesL_ (some 10) rfl rfl Tryd.func62 (by kernel_rfl) rfl #[.int .i32 a0, .int .i32 127, .int .i32 159] rfl (by (try simp only [List.map_toArray, List.map_cons, List.map_nil]); first | done | rfl | (simp only [List.length_drop, List.length_take]; rfl)) ?_; (with_reducible refine (tikref6_in.calls a0 127 159 false _ A7.out).mono ?_); rintro e w' ⟨rfl, ⟨nd, rfl⟩⟩; refine ⟨_, rfl, ?_⟩) | ((with_reducible refine gate_callee (f := 62) rfl ?_); refine goesL_ (some 12) rfl rfl Tryd.func62 (by kernel_rfl) rfl #[.int .i32 a0, .int .i32 768, .int .i32 879] rfl (by (try simp only [List.map_toArray, List.map_cons, List.map_nil]); first | done | rfl | (simp only [List.length_drop, List.length_take]; rfl)) ?_; (with_reducible refine (tikref6_in.calls a0 768 879 t107 _ A9.out).mono ?_); rintro e w' ⟨rfl, ⟨nd, rfl⟩⟩; refine ⟨_, rfl, ?_⟩))
          go_meet
          case rel => exact ⟨_, (t107), (by first | rfl | (simp; done) | (simp [*]; done)), H', ⟨by first | omega | exact Nat.le_refl _⟩, by repeat (first | exact Drawn0.refl _ | apply Drawn0.step)⟩
    · replace c4 := Bool.eq_false_iff.mpr c4
      subst c4
      have H1 : (tikref6_Width.j0 k a0 (!false)) = some r := by rw [if_neg (show ¬ (false = true) by decide)] at H; exact H
      clear H
      have H := H1
      clear H1
      have H' := Aside0.mk H
      clear H
      go_wp2
      go_meet
      case rel => exact ⟨_, (!false), (by first | rfl | (simp; done) | (simp [*]; done)), H', ⟨by first | omega | exact Nat.le_refl _⟩, by repeat (first | exact Drawn0.refl _ | apply Drawn0.step)⟩
  case rest =>
    clear HC3
    try clear p2
    try clear c4
    try clear c5
    try clear c6
    try clear c8
    obtain ⟨kq, x3_2, rfl, HA, HJ2, ⟨mc2, rfl⟩⟩ := hcut
    cases kq with
    | zero => exact absurd HA.out (by simp [tikref6_Width.j0])
    | succ kj2 =>
      have H := HA.out
      clear HA
      simp only [tikref6_Width.j0] at H
      by_cases c10 : x3_2 = true
      · subst c10
        have H1 : (some 0) = some r := by rw [if_pos rfl] at H; exact H
        clear H
        have H := H1
        clear H1
        obtain rfl := Option.some.inj H
        go_wp2
        go_ret
        exact ⟨by first | rfl | (simp; done) | (simp [*]; done), by repeat (first | exact Drawn0.refl _ | apply Drawn0.step)⟩
      · replace c10 := Bool.eq_false_iff.mpr c10
        subst c10
        have H1 : ((tikref6_in.f a0 4352 4447).bind fun t108 => (if t108 = true then (some 2) else ((tikref6_in.f a0 11904 42191).bind fun t109 => (if t109 = true then (some 2) else ((tikref6_in.f a0 44032 55203).bind fun t110 => (if t110 = true then (some 2) else ((tikref6_in.f a0 63744 64255).bind fun t111 => (if t111 = true then (some 2) else ((tikref6_in.f a0 65072 65135).bind fun t112 => (if t112 = true then (some 2) else ((tikref6_in.f a0 65280 65376).bind fun t113 => (if t113 = true then (some 2) else ((tikref6_in.f a0 65504 65510).bind fun t114 => (if t114 = true then (some 2) else ((tikref6_in.f a0 127744 128591).bind fun t115 => (if t115 = true then (some 2) else ((tikref6_in.f a0 129280 129535).bind fun t116 => (if t116 = true then (some 2) else ((tikref6_in.f a0 131072 262141).bind fun t117 => (if t117 = true then (some 2) else (some 1))))))))))))))))))))) = some r := by rw [if_neg (show ¬ (false = true) by decide)] at H; exact H
        clear H
        have H := H1
        clear H1
        replace H := Option.bind_eq_some_iff.mp H
        obtain ⟨t108, A110, H⟩ := H
        replace H : (if t108 = true then (some 2) else ((tikref6_in.f a0 11904 42191).bind fun t109 => (if t109 = true then (some 2) else ((tikref6_in.f a0 44032 55203).bind fun t110 => (if t110 = true then (some 2) else ((tikref6_in.f a0 63744 64255).bind fun t111 => (if t111 = true then (some 2) else ((tikref6_in.f a0 65072 65135).bind fun t112 => (if t112 = true then (some 2) else ((tikref6_in.f a0 65280 65376).bind fun t113 => (if t113 = true then (some 2) else ((tikref6_in.f a0 65504 65510).bind fun t114 => (if t114 = true then (some 2) else ((tikref6_in.f a0 127744 128591).bind fun t115 => (if t115 = true then (some 2) else ((tikref6_in.f a0 129280 129535).bind fun t116 => (if t116 = true then (some 2) else ((tikref6_in.f a0 131072 262141).bind fun t117 => (if t117 = true then (some 2) else (some 1)))))))))))))))))))) = some r := H
        have A11 := Aside0.mk A110
        clear A110
        by_cases c12 : t108 = true
        · subst c12
          have H1 : (some 2) = some r := by rw [if_pos rfl] at H; exact H
          clear H
          have H := H1
          clear H1
          obtain rfl := Option.some.inj H
          go_wp2_with (first | ((with_reducible refine gate_callee (f := 62) rfl ?_); refine goesL_ (some 15) rfl rfl Tryd.func62 (by kernel_rfl) rfl #[.int .i32 a0, .int .i32 4352, .int .i32 4447] rfl (by (try simp only [List.map_toArray, List.map_cons, List.map_nil]); first | done | rfl | (simp only [List.length_drop, List.length_take]; rfl)) ?_; (with_reducible refine (tikref6_in.calls a0 4352 4447 true _ A11.out).mono ?_); rintro e w' ⟨rfl, ⟨nd, rfl⟩⟩; refine ⟨_, rfl, ?_⟩))
          go_ret
          exact ⟨by first | rfl | (simp; done) | (simp [*]; done), by repeat (first | exact Drawn0.refl _ | apply Drawn0.step)⟩
        · replace c12 := Bool.eq_false_iff.mpr c12
          subst c12
          have H1 : ((tikref6_in.f a0 11904 42191).bind fun t109 => (if t109 = true then (some 2) else ((tikref6_in.f a0 44032 55203).bind fun t110 => (if t110 = true then (some 2) else ((tikref6_in.f a0 63744 64255).bind fun t111 => (if t111 = true then (some 2) else ((tikref6_in.f a0 65072 65135).bind fun t112 => (if t112 = true then (some 2) else ((tikref6_in.f a0 65280 65376).bind fun t113 => (if t113 = true then (some 2) else ((tikref6_in.f a0 65504 65510).bind fun t114 => (if t114 = true then (some 2) else ((tikref6_in.f a0 127744 128591).bind fun t115 => (if t115 = true then (some 2) else ((tikref6_in.f a0 129280 129535).bind fun t116 => (if t116 = true then (some 2) else ((tikref6_in.f a0 131072 262141).bind fun t117 => (if t117 = true then (some 2) else (some 1))))))))))))))))))) = some r := by rw [if_neg (show ¬ (false = true) by decide)] at H; exact H
          clear H
          have H := H1
          clear H1
          replace H := Option.bind_eq_some_iff.mp H
          obtain ⟨t109, A130, H⟩ := H
          replace H : (if t109 = true then (some 2) else ((tikref6_in.f a0 44032 55203).bind fun t110 => (if t110 = true then (some 2) else ((tikref6_in.f a0 63744 64255).bind fun t111 => (if t111 = true then (some 2) else ((tikref6_in.f a0 65072 65135).bind fun t112 => (if t112 = true then (some 2) else ((tikref6_in.f a0 65280 65376).bind fun t113 => (if t113 = true then (some 2) else ((tikref6_in.f a0 65504 65510).bind fun t114 => (if t114 = true then (some 2) else ((tikref6_in.f a0 127744 128591).bind fun t115 => (if t115 = true then (some 2) else ((tikref6_in.f a0 129280 129535).bind fun t116 => (if t116 = true then (some 2) else ((tikref6_in.f a0 131072 262141).bind fun t117 => (if t117 = true then (some 2) else (some 1)))))))))))))))))) = some r := H
          have A13 := Aside0.mk A130
          clear A130
          by_cases c14 : t109 = true
          · subst c14
            have H1 : (some 2) = some r := by rw [if_pos rfl] at H; exact H
            clear H
            have H := H1
            clear H1
            obtain rfl := Option.some.inj H
            go_wp2_with (first | ((with_reducible refine gate_callee (f := 62) rfl ?_); refine goesL_ (some 15) rfl rfl Tryd.func62 (by kernel_rfl) rfl #[.int .i32 a0, .int .i32 4352, .int .i32 4447] rfl (by (try simp only [List.map_toArray, List.map_cons, List.map_nil]); first | done | rfl | (simp only [List.length_drop, List.length_take]; rfl)) ?_; (with_reducible refine (tikref6_in.calls a0 4352 4447 false _ A11.out).mono ?_); rintro e w' ⟨rfl, ⟨nd, rfl⟩⟩; refine ⟨_, rfl, ?_⟩) | ((with_reducible refine gate_callee (f := 62) rfl ?_); refine goesL_ (some 17) rfl rfl Tryd.func62 (by kernel_rfl) rfl #[.int .i32 a0, .int .i32 11904, .int .i32 42191] rfl (by (try simp only [List.map_toArray, List.map_cons, List.map_nil]); first | done | rfl | (simp only [List.length_drop, List.length_take]; rfl)) ?_; (with_reducible refine (tikref6_in.calls a0 11904 42191 true _ A13.out).mono ?_); rintro e w' ⟨rfl, ⟨nd, rfl⟩⟩; refine ⟨_, rfl, ?_⟩))
            go_ret
            exact ⟨by first | rfl | (simp; done) | (simp [*]; done), by repeat (first | exact Drawn0.refl _ | apply Drawn0.step)⟩
          · replace c14 := Bool.eq_false_iff.mpr c14
            subst c14
            have H1 : ((tikref6_in.f a0 44032 55203).bind fun t110 => (if t110 = true then (some 2) else ((tikref6_in.f a0 63744 64255).bind fun t111 => (if t111 = true then (some 2) else ((tikref6_in.f a0 65072 65135).bind fun t112 => (if t112 = true then (some 2) else ((tikref6_in.f a0 65280 65376).bind fun t113 => (if t113 = true then (some 2) else ((tikref6_in.f a0 65504 65510).bind fun t114 => (if t114 = true then (some 2) else ((tikref6_in.f a0 127744 128591).bind fun t115 => (if t115 = true then (some 2) else ((tikref6_in.f a0 129280 129535).bind fun t116 => (if t116 = true then (some 2) else ((tikref6_in.f a0 131072 262141).bind fun t117 => (if t117 = true then (some 2) else (some 1))))))))))))))))) = some r := by rw [if_neg (show ¬ (false = true) by decide)] at H; exact H
            clear H
            have H := H1
            clear H1
            replace H := Option.bind_eq_some_iff.mp H
            obtain ⟨t110, A150, H⟩ := H
            replace H : (if t110 = true then (some 2) else ((tikref6_in.f a0 63744 64255).bind fun t111 => (if t111 = true then (some 2) else ((tikref6_in.f a0 65072 65135).bind fun t112 => (if t112 = true then (some 2) else ((tikref6_in.f a0 65280 65376).bind fun t113 => (if t113 = true then (some 2) else ((tikref6_in.f a0 65504 65510).bind fun t114 => (if t114 = true then (some 2) else ((tikref6_in.f a0 127744 128591).bind fun t115 => (if t115 = true then (some 2) else ((tikref6_in.f a0 129280 129535).bind fun t116 => (if t116 = true then (some 2) else ((tikref6_in.f a0 131072 262141).bind fun t117 => (if t117 = true then (some 2) else (some 1)))))))))))))))) = some r := H
            have A15 := Aside0.mk A150
            clear A150
            by_cases c16 : t110 = true
            · subst c16
              have H1 : (some 2) = some r := by rw [if_pos rfl] at H; exact H
              clear H
              have H := H1
              clear H1
              obtain rfl := Option.some.inj H
              go_wp2_with (first | ((with_reducible refine gate_callee (f := 62) rfl ?_); refine goesL_ (some 15) rfl rfl Tryd.func62 (by kernel_rfl) rfl #[.int .i32 a0, .int .i32 4352, .int .i32 4447] rfl (by (try simp only [List.map_toArray, List.map_cons, List.map_nil]); first | done | rfl | (simp only [List.length_drop, List.length_take]; rfl)) ?_; (with_reducible refine (tikref6_in.calls a0 4352 4447 false _ A11.out).mono ?_); rintro e w' ⟨rfl, ⟨nd, rfl⟩⟩; refine ⟨_, rfl, ?_⟩) | ((with_reducible refine gate_callee (f := 62) rfl ?_); refine goesL_ (some 17) rfl rfl Tryd.func62 (by kernel_rfl) rfl #[.int .i32 a0, .int .i32 11904, .int .i32 42191] rfl (by (try simp only [List.map_toArray, List.map_cons, List.map_nil]); first | done | rfl | (simp only [List.length_drop, List.length_take]; rfl)) ?_; (with_reducible refine (tikref6_in.calls a0 11904 42191 false _ A13.out).mono ?_); rintro e w' ⟨rfl, ⟨nd, rfl⟩⟩; refine ⟨_, rfl, ?_⟩) | ((with_reducible refine gate_callee (f := 62) rfl ?_); refine goesL_ (some 19) rfl rfl Tryd.func62 (by kernel_rfl) rfl #[.int .i32 a0, .int .i32 44032, .int .i32 55203] rfl (by (try simp only [List.map_toArray, List.map_cons, List.map_nil]); first | done | rfl | (simp only [List.length_drop, List.length_take]; rfl)) ?_; (with_reducible refine (tikref6_in.calls a0 44032 55203 true _ A15.out).mono ?_); rintro e w' ⟨rfl, ⟨nd, rfl⟩⟩; refine ⟨_, rfl, ?_⟩))
              go_ret
              exact ⟨by first | rfl | (simp; done) | (simp [*]; done), by repeat (first | exact Drawn0.refl _ | apply Drawn0.step)⟩
            · replace c16 := Bool.eq_false_iff.mpr c16
              subst c16
              have H1 : ((tikref6_in.f a0 63744 64255).bind fun t111 => (if t111 = true then (some 2) else ((tikref6_in.f a0 65072 65135).bind fun t112 => (if t112 = true then (some 2) else ((tikref6_in.f a0 65280 65376).bind fun t113 => (if t113 = true then (some 2) else ((tikref6_in.f a0 65504 65510).bind fun t114 => (if t114 = true then (some 2) else ((tikref6_in.f a0 127744 128591).bind fun t115 => (if t115 = true then (some 2) else ((tikref6_in.f a0 129280 129535).bind fun t116 => (if t116 = true then (some 2) else ((tikref6_in.f a0 131072 262141).bind fun t117 => (if t117 = true then (some 2) else (some 1))))))))))))))) = some r := by rw [if_neg (show ¬ (false = true) by decide)] at H; exact H
              clear H
              have H := H1
              clear H1
              replace H := Option.bind_eq_some_iff.mp H
              obtain ⟨t111, A170, H⟩ := H
              replace H : (if t111 = true then (some 2) else ((tikref6_in.f a0 65072 65135).bind fun t112 => (if t112 = true then (some 2) else ((tikref6_in.f a0 65280 65376).bind fun t113 => (if t113 = true then (some 2) else ((tikref6_in.f a0 65504 65510).bind fun t114 => (if t114 = true then (some 2) else ((tikref6_in.f a0 127744 128591).bind fun t115 => (if t115 = true then (some 2) else ((tikref6_in.f a0 129280 129535).bind fun t116 => (if t116 = true then (some 2) else ((tikref6_in.f a0 131072 262141).bind fun t117 => (if t117 = true then (some 2) else (some 1)))))))))))))) = some r := H
              have A17 := Aside0.mk A170
              clear A170
              by_cases c18 : t111 = true
              · subst c18
                have H1 : (some 2) = some r := by rw [if_pos rfl] at H; exact H
                clear H
                have H := H1
                clear H1
                obtain rfl := Option.some.inj H
                go_wp2_with (first | ((with_reducible refine gate_callee (f := 62) rfl ?_); refine goesL_ (some 15) rfl rfl Tryd.func62 (by kernel_rfl) rfl #[.int .i32 a0, .int .i32 4352, .int .i32 4447] rfl (by (try simp only [List.map_toArray, List.map_cons, List.map_nil]); first | done | rfl | (simp only [List.length_drop, List.length_take]; rfl)) ?_; (with_reducible refine (tikref6_in.calls a0 4352 4447 false _ A11.out).mono ?_); rintro e w' ⟨rfl, ⟨nd, rfl⟩⟩; refine ⟨_, rfl, ?_⟩) | ((with_reducible refine gate_callee (f := 62) rfl ?_); refine goesL_ (some 17) rfl rfl Tryd.func62 (by kernel_rfl) rfl #[.int .i32 a0, .int .i32 11904, .int .i32 42191] rfl (by (try simp only [List.map_toArray, List.map_cons, List.map_nil]); first | done | rfl | (simp only [List.length_drop, List.length_take]; rfl)) ?_; (with_reducible refine (tikref6_in.calls a0 11904 42191 false _ A13.out).mono ?_); rintro e w' ⟨rfl, ⟨nd, rfl⟩⟩; refine ⟨_, rfl, ?_⟩) | ((with_reducible refine gate_callee (f := 62) rfl ?_); refine goesL_ (some 19) rfl rfl Tryd.func62 (by kernel_rfl) rfl #[.int .i32 a0, .int .i32 44032, .int .i32 55203] rfl (by (try simp only [List.map_toArray, List.map_cons, List.map_nil]); first | done | rfl | (simp only [List.length_drop, List.length_take]; rfl)) ?_; (with_reducible refine (tikref6_in.calls a0 44032 55203 false _ A15.out).mono ?_); rintro e w' ⟨rfl, ⟨nd, rfl⟩⟩; refine ⟨_, rfl, ?_⟩) | ((with_reducible refine gate_callee (f := 62) rfl ?_); refine goesL_ (some 21) rfl rfl Tryd.func62 (by kernel_rfl) rfl #[.int .i32 a0, .int .i32 63744, .int .i32 64255] rfl (by (try simp only [List.map_toArray, List.map_cons, List.map_nil]); first | done | rfl | (simp only [List.length_drop, List.length_take]; rfl)) ?_; (with_reducible refine (tikref6_in.calls a0 63744 64255 true _ A17.out).mono ?_); rintro e w' ⟨rfl, ⟨nd, rfl⟩⟩; refine ⟨_, rfl, ?_⟩))
                go_ret
                exact ⟨by first | rfl | (simp; done) | (simp [*]; done), by repeat (first | exact Drawn0.refl _ | apply Drawn0.step)⟩
              · replace c18 := Bool.eq_false_iff.mpr c18
                subst c18
                have H1 : ((tikref6_in.f a0 65072 65135).bind fun t112 => (if t112 = true then (some 2) else ((tikref6_in.f a0 65280 65376).bind fun t113 => (if t113 = true then (some 2) else ((tikref6_in.f a0 65504 65510).bind fun t114 => (if t114 = true then (some 2) else ((tikref6_in.f a0 127744 128591).bind fun t115 => (if t115 = true then (some 2) else ((tikref6_in.f a0 129280 129535).bind fun t116 => (if t116 = true then (some 2) else ((tikref6_in.f a0 131072 262141).bind fun t117 => (if t117 = true then (some 2) else (some 1))))))))))))) = some r := by rw [if_neg (show ¬ (false = true) by decide)] at H; exact H
                clear H
                have H := H1
                clear H1
                replace H := Option.bind_eq_some_iff.mp H
                obtain ⟨t112, A190, H⟩ := H
                replace H : (if t112 = true then (some 2) else ((tikref6_in.f a0 65280 65376).bind fun t113 => (if t113 = true then (some 2) else ((tikref6_in.f a0 65504 65510).bind fun t114 => (if t114 = true then (some 2) else ((tikref6_in.f a0 127744 128591).bind fun t115 => (if t115 = true then (some 2) else ((tikref6_in.f a0 129280 129535).bind fun t116 => (if t116 = true then (some 2) else ((tikref6_in.f a0 131072 262141).bind fun t117 => (if t117 = true then (some 2) else (some 1)))))))))))) = some r := H
                have A19 := Aside0.mk A190
                clear A190
                by_cases c20 : t112 = true
                · subst c20
                  have H1 : (some 2) = some r := by rw [if_pos rfl] at H; exact H
                  clear H
                  have H := H1
                  clear H1
                  obtain rfl := Option.some.inj H
                  go_wp2_with (first | ((with_reducible refine gate_callee (f := 62) rfl ?_); refine goesL_ (some 15) rfl rfl Tryd.func62 (by kernel_rfl) rfl #[.int .i32 a0, .int .i32 4352, .int .i32 4447] rfl (by (try simp only [List.map_toArray, List.map_cons, List.map_nil]); first | done | rfl | (simp only [List.length_drop, List.length_take]; rfl)) ?_; (with_reducible refine (tikref6_in.calls a0 4352 4447 false _ A11.out).mono ?_); rintro e w' ⟨rfl, ⟨nd, rfl⟩⟩; refine ⟨_, rfl, ?_⟩) | ((with_reducible refine gate_callee (f := 62) rfl ?_); refine goesL_ (some 17) rfl rfl Tryd.func62 (by kernel_rfl) rfl #[.int .i32 a0, .int .i32 11904, .int .i32 42191] rfl (by (try simp only [List.map_toArray, List.map_cons, List.map_nil]); first | done | rfl | (simp only [List.length_drop, List.length_take]; rfl)) ?_; (with_reducible refine (tikref6_in.calls a0 11904 42191 false _ A13.out).mono ?_); rintro e w' ⟨rfl, ⟨nd, rfl⟩⟩; refine ⟨_, rfl, ?_⟩) | ((with_reducible refine gate_callee (f := 62) rfl ?_); refine goesL_ (some 19) rfl rfl Tryd.func62 (by kernel_rfl) rfl #[.int .i32 a0, .int .i32 44032, .int .i32 55203] rfl (by (try simp only [List.map_toArray, List.map_cons, List.map_nil]); first | done | rfl | (simp only [List.length_drop, List.length_take]; rfl)) ?_; (with_reducible refine (tikref6_in.calls a0 44032 55203 false _ A15.out).mono ?_); rintro e w' ⟨rfl, ⟨nd, rfl⟩⟩; refine ⟨_, rfl, ?_⟩) | ((with_reducible refine gate_callee (f := 62) rfl ?_); refine goesL_ (some 21) rfl rfl Tryd.func62 (by kernel_rfl) rfl #[.int .i32 a0, .int .i32 63744, .int .i32 64255] rfl (by (try simp only [List.map_toArray, List.map_cons, List.map_nil]); first | done | rfl | (simp only [List.length_drop, List.length_take]; rfl)) ?_; (with_reducible refine (tikref6_in.calls a0 63744 64255 false _ A17.out).mono ?_); rintro e w' ⟨rfl, ⟨nd, rfl⟩⟩; refine ⟨_, rfl, ?_⟩) | ((with_reducible refine gate_callee (f := 62) rfl ?_); refine goesL_ (some 23) rfl rfl Tryd.func62 (by kernel_rfl) rfl #[.int .i32 a0, .int .i32 65072, .int .i32 65135] rfl (by (try simp only [List.map_toArray, List.map_cons, List.map_nil]); first | done | rfl | (simp only [List.length_drop, List.length_take]; rfl)) ?_; (with_reducible refine (tikref6_in.calls a0 65072 65135 true _ A19.out).mono ?_); rintro e w' ⟨rfl, ⟨nd, rfl⟩⟩; refine ⟨_, rfl, ?_⟩))
                  go_ret
                  exact ⟨by first | rfl | (simp; done) | (simp [*]; done), by repeat (first | exact Drawn0.refl _ | apply Drawn0.step)⟩
                · replace c20 := Bool.eq_false_iff.mpr c20
                  subst c20
                  have H1 : ((tikref6_in.f a0 65280 65376).bind fun t113 => (if t113 = true then (some 2) else ((tikref6_in.f a0 65504 65510).bind fun t114 => (if t114 = true then (some 2) else ((tikref6_in.f a0 127744 128591).bind fun t115 => (if t115 = true then (some 2) else ((tikref6_in.f a0 129280 129535).bind fun t116 => (if t116 = true then (some 2) else ((tikref6_in.f a0 131072 262141).bind fun t117 => (if t117 = true then (some 2) else (some 1))))))))))) = some r := by rw [if_neg (show ¬ (false = true) by decide)] at H; exact H
                  clear H
                  have H := H1
                  clear H1
                  replace H := Option.bind_eq_some_iff.mp H
                  obtain ⟨t113, A210, H⟩ := H
                  replace H : (if t113 = true then (some 2) else ((tikref6_in.f a0 65504 65510).bind fun t114 => (if t114 = true then (some 2) else ((tikref6_in.f a0 127744 128591).bind fun t115 => (if t115 = true then (some 2) else ((tikref6_in.f a0 129280 129535).bind fun t116 => (if t116 = true then (some 2) else ((tikref6_in.f a0 131072 262141).bind fun t117 => (if t117 = true then (some 2) else (some 1)))))))))) = some r := H
                  have A21 := Aside0.mk A210
                  clear A210
                  by_cases c22 : t113 = true
                  · subst c22
                    have H1 : (some 2) = some r := by rw [if_pos rfl] at H; exact H
                    clear H
                    have H := H1
                    clear H1
                    obtain rfl := Option.some.inj H
                    go_wp2_with (first | ((with_reducible refine gate_callee (f := 62) rfl ?_); refine goesL_ (some 15) rfl rfl Tryd.func62 (by kernel_rfl) rfl #[.int .i32 a0, .int .i32 4352, .int .i32 4447] rfl (by (try simp only [List.map_toArray, List.map_cons, List.map_nil]); first | done | rfl | (simp only [List.length_drop, List.length_take]; rfl)) ?_; (with_reducible refine (tikref6_in.calls a0 4352 4447 false _ A11.out).mono ?_); rintro e w' ⟨rfl, ⟨nd, rfl⟩⟩; refine ⟨_, rfl, ?_⟩) | ((with_reducible refine gate_callee (f := 62) rfl ?_); refine goesL_ (some 17) rfl rfl Tryd.func62 (by kernel_rfl) rfl #[.int .i32 a0, .int .i32 11904, .int .i32 42191] rfl (by (try simp only [List.map_toArray, List.map_cons, List.map_nil]); first | done | rfl | (simp only [List.length_drop, List.length_take]; rfl)) ?_; (with_reducible refine (tikref6_in.calls a0 11904 42191 false _ A13.out).mono ?_); rintro e w' ⟨rfl, ⟨nd, rfl⟩⟩; refine ⟨_, rfl, ?_⟩) | ((with_reducible refine gate_callee (f := 62) rfl ?_); refine goesL_ (some 19) rfl rfl Tryd.func62 (by kernel_rfl) rfl #[.int .i32 a0, .int .i32 44032, .int .i32 55203] rfl (by (try simp only [List.map_toArray, List.map_cons, List.map_nil]); first | done | rfl | (simp only [List.length_drop, List.length_take]; rfl)) ?_; (with_reducible refine (tikref6_in.calls a0 44032 55203 false _ A15.out).mono ?_); rintro e w' ⟨rfl, ⟨nd, rfl⟩⟩; refine ⟨_, rfl, ?_⟩) | ((with_reducible refine gate_callee (f := 62) rfl ?_); refine goesL_ (some 21) rfl rfl Tryd.func62 (by kernel_rfl) rfl #[.int .i32 a0, .int .i32 63744, .int .i32 64255] rfl (by (try simp only [List.map_toArray, List.map_cons, List.map_nil]); first | done | rfl | (simp only [List.length_drop, List.length_take]; rfl)) ?_; (with_reducible refine (tikref6_in.calls a0 63744 64255 false _ A17.out).mono ?_); rintro e w' ⟨rfl, ⟨nd, rfl⟩⟩; refine ⟨_, rfl, ?_⟩) | ((with_reducible refine gate_callee (f := 62) rfl ?_); refine goesL_ (some 23) rfl rfl Tryd.func62 (by kernel_rfl) rfl #[.int .i32 a0, .int .i32 65072, .int .i32 65135] rfl (by (try simp only [List.map_toArray, List.map_cons, List.map_nil]); first | done | rfl | (simp only [List.length_drop, List.length_take]; rfl)) ?_; (with_reducible refine (tikref6_in.calls a0 65072 65135 false _ A19.out).mono ?_); rintro e w' ⟨rfl, ⟨nd, rfl⟩⟩; refine ⟨_, rfl, ?_⟩) | ((with_reducible refine gate_callee (f := 62) rfl ?_); refine goesL_ (some 25) rfl rfl Tryd.func62 (by kernel_rfl) rfl #[.int .i32 a0, .int .i32 65280, .int .i32 65376] rfl (by (try simp only [List.map_toArray, List.map_cons, List.map_nil]); first | done | rfl | (simp only [List.length_drop, List.length_take]; rfl)) ?_; (with_reducible refine (tikref6_in.calls a0 65280 65376 true _ A21.out).mono ?_); rintro e w' ⟨rfl, ⟨nd, rfl⟩⟩; refine ⟨_, rfl, ?_⟩))
                    go_ret
                    exact ⟨by first | rfl | (simp; done) | (simp [*]; done), by repeat (first | exact Drawn0.refl _ | apply Drawn0.step)⟩
                  · replace c22 := Bool.eq_false_iff.mpr c22
                    subst c22
                    have H1 : ((tikref6_in.f a0 65504 65510).bind fun t114 => (if t114 = true then (some 2) else ((tikref6_in.f a0 127744 128591).bind fun t115 => (if t115 = true then (some 2) else ((tikref6_in.f a0 129280 129535).bind fun t116 => (if t116 = true then (some 2) else ((tikref6_in.f a0 131072 262141).bind fun t117 => (if t117 = true then (some 2) else (some 1))))))))) = some r := by rw [if_neg (show ¬ (false = true) by decide)] at H; exact H
                    clear H
                    have H := H1
                    clear H1
                    replace H := Option.bind_eq_some_iff.mp H
                    obtain ⟨t114, A230, H⟩ := H
                    replace H : (if t114 = true then (some 2) else ((tikref6_in.f a0 127744 128591).bind fun t115 => (if t115 = true then (some 2) else ((tikref6_in.f a0 129280 129535).bind fun t116 => (if t116 = true then (some 2) else ((tikref6_in.f a0 131072 262141).bind fun t117 => (if t117 = true then (some 2) else (some 1)))))))) = some r := H
                    have A23 := Aside0.mk A230
                    clear A230
                    by_cases c24 : t114 = true
                    · subst c24
                      have H1 : (some 2) = some r := by rw [if_pos rfl] at H; exact H
                      clear H
                      have H := H1
                      clear H1
                      obtain rfl := Option.some.inj H
                      go_wp2_with (first | ((with_reducible refine gate_callee (f := 62) rfl ?_); refine goesL_ (some 15) rfl rfl Tryd.func62 (by kernel_rfl) rfl #[.int .i32 a0, .int .i32 4352, .int .i32 4447] rfl (by (try simp only [List.map_toArray, List.map_cons, List.map_nil]); first | done | rfl | (simp only [List.length_drop, List.length_take]; rfl)) ?_; (with_reducible refine (tikref6_in.calls a0 4352 4447 false _ A11.out).mono ?_); rintro e w' ⟨rfl, ⟨nd, rfl⟩⟩; refine ⟨_, rfl, ?_⟩) | ((with_reducible refine gate_callee (f := 62) rfl ?_); refine goesL_ (some 17) rfl rfl Tryd.func62 (by kernel_rfl) rfl #[.int .i32 a0, .int .i32 11904, .int .i32 42191] rfl (by (try simp only [List.map_toArray, List.map_cons, List.map_nil]); first | done | rfl | (simp only [List.length_drop, List.length_take]; rfl)) ?_; (with_reducible refine (tikref6_in.calls a0 11904 42191 false _ A13.out).mono ?_); rintro e w' ⟨rfl, ⟨nd, rfl⟩⟩; refine ⟨_, rfl, ?_⟩) | ((with_reducible refine gate_callee (f := 62) rfl ?_); refine goesL_ (some 19) rfl rfl Tryd.func62 (by kernel_rfl) rfl #[.int .i32 a0, .int .i32 44032, .int .i32 55203] rfl (by (try simp only [List.map_toArray, List.map_cons, List.map_nil]); first | done | rfl | (simp only [List.length_drop, List.length_take]; rfl)) ?_; (with_reducible refine (tikref6_in.calls a0 44032 55203 false _ A15.out).mono ?_); rintro e w' ⟨rfl, ⟨nd, rfl⟩⟩; refine ⟨_, rfl, ?_⟩) | ((with_reducible refine gate_callee (f := 62) rfl ?_); refine goesL_ (some 21) rfl rfl Tryd.func62 (by kernel_rfl) rfl #[.int .i32 a0, .int .i32 63744, .int .i32 64255] rfl (by (try simp only [List.map_toArray, List.map_cons, List.map_nil]); first | done | rfl | (simp only [List.length_drop, List.length_take]; rfl)) ?_; (with_reducible refine (tikref6_in.calls a0 63744 64255 false _ A17.out).mono ?_); rintro e w' ⟨rfl, ⟨nd, rfl⟩⟩; refine ⟨_, rfl, ?_⟩) | ((with_reducible refine gate_callee (f := 62) rfl ?_); refine goesL_ (some 23) rfl rfl Tryd.func62 (by kernel_rfl) rfl #[.int .i32 a0, .int .i32 65072, .int .i32 65135] rfl (by (try simp only [List.map_toArray, List.map_cons, List.map_nil]); first | done | rfl | (simp only [List.length_drop, List.length_take]; rfl)) ?_; (with_reducible refine (tikref6_in.calls a0 65072 65135 false _ A19.out).mono ?_); rintro e w' ⟨rfl, ⟨nd, rfl⟩⟩; refine ⟨_, rfl, ?_⟩) | ((with_reducible refine gate_callee (f := 62) rfl ?_); refine goesL_ (some 25) rfl rfl Tryd.func62 (by kernel_rfl) rfl #[.int .i32 a0, .int .i32 65280, .int .i32 65376] rfl (by (try simp only [List.map_toArray, List.map_cons, List.map_nil]); first | done | rfl | (simp only [List.length_drop, List.length_take]; rfl)) ?_; (with_reducible refine (tikref6_in.calls a0 65280 65376 false _ A21.out).mono ?_); rintro e w' ⟨rfl, ⟨nd, rfl⟩⟩; refine ⟨_, rfl, ?_⟩) | ((with_reducible refine gate_callee (f := 62) rfl ?_); refine goesL_ (some 27) rfl rfl Tryd.func62 (by kernel_rfl) rfl #[.int .i32 a0, .int .i32 65504, .int .i32 65510] rfl (by (try simp only [List.map_toArray, List.map_cons, List.map_nil]); first | done | rfl | (simp only [List.length_drop, List.length_take]; rfl)) ?_; (with_reducible refine (tikref6_in.calls a0 65504 65510 true _ A23.out).mono ?_); rintro e w' ⟨rfl, ⟨nd, rfl⟩⟩; refine ⟨_, rfl, ?_⟩))
                      go_ret
                      exact ⟨by first | rfl | (simp; done) | (simp [*]; done), by repeat (first | exact Drawn0.refl _ | apply Drawn0.step)⟩
                    · replace c24 := Bool.eq_false_iff.mpr c24
                      subst c24
                      have H1 : ((tikref6_in.f a0 127744 128591).bind fun t115 => (if t115 = true then (some 2) else ((tikref6_in.f a0 129280 129535).bind fun t116 => (if t116 = true then (some 2) else ((tikref6_in.f a0 131072 262141).bind fun t117 => (if t117 = true then (some 2) else (some 1))))))) = some r := by rw [if_neg (show ¬ (false = true) by decide)] at H; exact H
                      clear H
                      have H := H1
                      clear H1
                      replace H := Option.bind_eq_some_iff.mp H
                      obtain ⟨t115, A250, H⟩ := H
                      replace H : (if t115 = true then (some 2) else ((tikref6_in.f a0 129280 129535).bind fun t116 => (if t116 = true then (some 2) else ((tikref6_in.f a0 131072 262141).bind fun t117 => (if t117 = true then (some 2) else (some 1)))))) = some r := H
                      have A25 := Aside0.mk A250
                      clear A250
                      by_cases c26 : t115 = true
                      · subst c26
                        have H1 : (some 2) = some r := by rw [if_pos rfl] at H; exact H
                        clear H
                        have H := H1
                        clear H1
                        obtain rfl := Option.some.inj H
                        go_wp2_with (first | ((with_reducible refine gate_callee (f := 62) rfl ?_); refine goesL_ (some 15) rfl rfl Tryd.func62 (by kernel_rfl) rfl #[.int .i32 a0, .int .i32 4352, .int .i32 4447] rfl (by (try simp only [List.map_toArray, List.map_cons, List.map_nil]); first | done | rfl | (simp only [List.length_drop, List.length_take]; rfl)) ?_; (with_reducible refine (tikref6_in.calls a0 4352 4447 false _ A11.out).mono ?_); rintro e w' ⟨rfl, ⟨nd, rfl⟩⟩; refine ⟨_, rfl, ?_⟩) | ((with_reducible refine gate_callee (f := 62) rfl ?_); refine goesL_ (some 17) rfl rfl Tryd.func62 (by kernel_rfl) rfl #[.int .i32 a0, .int .i32 11904, .int .i32 42191] rfl (by (try simp only [List.map_toArray, List.map_cons, List.map_nil]); first | done | rfl | (simp only [List.length_drop, List.length_take]; rfl)) ?_; (with_reducible refine (tikref6_in.calls a0 11904 42191 false _ A13.out).mono ?_); rintro e w' ⟨rfl, ⟨nd, rfl⟩⟩; refine ⟨_, rfl, ?_⟩) | ((with_reducible refine gate_callee (f := 62) rfl ?_); refine goesL_ (some 19) rfl rfl Tryd.func62 (by kernel_rfl) rfl #[.int .i32 a0, .int .i32 44032, .int .i32 55203] rfl (by (try simp only [List.map_toArray, List.map_cons, List.map_nil]); first | done | rfl | (simp only [List.length_drop, List.length_take]; rfl)) ?_; (with_reducible refine (tikref6_in.calls a0 44032 55203 false _ A15.out).mono ?_); rintro e w' ⟨rfl, ⟨nd, rfl⟩⟩; refine ⟨_, rfl, ?_⟩) | ((with_reducible refine gate_callee (f := 62) rfl ?_); refine goesL_ (some 21) rfl rfl Tryd.func62 (by kernel_rfl) rfl #[.int .i32 a0, .int .i32 63744, .int .i32 64255] rfl (by (try simp only [List.map_toArray, List.map_cons, List.map_nil]); first | done | rfl | (simp only [List.length_drop, List.length_take]; rfl)) ?_; (with_reducible refine (tikref6_in.calls a0 63744 64255 false _ A17.out).mono ?_); rintro e w' ⟨rfl, ⟨nd, rfl⟩⟩; refine ⟨_, rfl, ?_⟩) | ((with_reducible refine gate_callee (f := 62) rfl ?_); refine goesL_ (some 23) rfl rfl Tryd.func62 (by kernel_rfl) rfl #[.int .i32 a0, .int .i32 65072, .int .i32 65135] rfl (by (try simp only [List.map_toArray, List.map_cons, List.map_nil]); first | done | rfl | (simp only [List.length_drop, List.length_take]; rfl)) ?_; (with_reducible refine (tikref6_in.calls a0 65072 65135 false _ A19.out).mono ?_); rintro e w' ⟨rfl, ⟨nd, rfl⟩⟩; refine ⟨_, rfl, ?_⟩) | ((with_reducible refine gate_callee (f := 62) rfl ?_); refine goesL_ (some 25) rfl rfl Tryd.func62 (by kernel_rfl) rfl #[.int .i32 a0, .int .i32 65280, .int .i32 65376] rfl (by (try simp only [List.map_toArray, List.map_cons, List.map_nil]); first | done | rfl | (simp only [List.length_drop, List.length_take]; rfl)) ?_; (with_reducible refine (tikref6_in.calls a0 65280 65376 false _ A21.out).mono ?_); rintro e w' ⟨rfl, ⟨nd, rfl⟩⟩; refine ⟨_, rfl, ?_⟩) | ((with_reducible refine gate_callee (f := 62) rfl ?_); refine goesL_ (some 27) rfl rfl Tryd.func62 (by kernel_rfl) rfl #[.int .i32 a0, .int .i32 65504, .int .i32 65510] rfl (by (try simp only [List.map_toArray, List.map_cons, List.map_nil]); first | done | rfl | (simp only [List.length_drop, List.length_take]; rfl)) ?_; (with_reducible refine (tikref6_in.calls a0 65504 65510 false _ A23.out).mono ?_); rintro e w' ⟨rfl, ⟨nd, rfl⟩⟩; refine ⟨_, rfl, ?_⟩) | ((with_reducible refine gate_callee (f := 62) rfl ?_); refine goesL_ (some 29) rfl rfl Tryd.func62 (by kernel_rfl) rfl #[.int .i32 a0, .int .i32 127744, .int .i32 128591] rfl (by (try simp only [List.map_toArray, List.map_cons, List.map_nil]); first | done | rfl | (simp only [List.length_drop, List.length_take]; rfl)) ?_; (with_reducible refine (tikref6_in.calls a0 127744 128591 true _ A25.out).mono ?_); rintro e w' ⟨rfl, ⟨nd, rfl⟩⟩; refine ⟨_, rfl, ?_⟩))
                        go_ret
                        exact ⟨by first | rfl | (simp; done) | (simp [*]; done), by repeat (first | exact Drawn0.refl _ | apply Drawn0.step)⟩
                      · replace c26 := Bool.eq_false_iff.mpr c26
                        subst c26
                        have H1 : ((tikref6_in.f a0 129280 129535).bind fun t116 => (if t116 = true then (some 2) else ((tikref6_in.f a0 131072 262141).bind fun t117 => (if t117 = true then (some 2) else (some 1))))) = some r := by rw [if_neg (show ¬ (false = true) by decide)] at H; exact H
                        clear H
                        have H := H1
                        clear H1
                        replace H := Option.bind_eq_some_iff.mp H
                        obtain ⟨t116, A270, H⟩ := H
                        replace H : (if t116 = true then (some 2) else ((tikref6_in.f a0 131072 262141).bind fun t117 => (if t117 = true then (some 2) else (some 1)))) = some r := H
                        have A27 := Aside0.mk A270
                        clear A270
                        by_cases c28 : t116 = true
                        · subst c28
                          have H1 : (some 2) = some r := by rw [if_pos rfl] at H; exact H
                          clear H
                          have H := H1
                          clear H1
                          obtain rfl := Option.some.inj H
                          go_wp2_with (first | ((with_reducible refine gate_callee (f := 62) rfl ?_); refine goesL_ (some 15) rfl rfl Tryd.func62 (by kernel_rfl) rfl #[.int .i32 a0, .int .i32 4352, .int .i32 4447] rfl (by (try simp only [List.map_toArray, List.map_cons, List.map_nil]); first | done | rfl | (simp only [List.length_drop, List.length_take]; rfl)) ?_; (with_reducible refine (tikref6_in.calls a0 4352 4447 false _ A11.out).mono ?_); rintro e w' ⟨rfl, ⟨nd, rfl⟩⟩; refine ⟨_, rfl, ?_⟩) | ((with_reducible refine gate_callee (f := 62) rfl ?_); refine goesL_ (some 17) rfl rfl Tryd.func62 (by kernel_rfl) rfl #[.int .i32 a0, .int .i32 11904, .int .i32 42191] rfl (by (try simp only [List.map_toArray, List.map_cons, List.map_nil]); first | done | rfl | (simp only [List.length_drop, List.length_take]; rfl)) ?_; (with_reducible refine (tikref6_in.calls a0 11904 42191 false _ A13.out).mono ?_); rintro e w' ⟨rfl, ⟨nd, rfl⟩⟩; refine ⟨_, rfl, ?_⟩) | ((with_reducible refine gate_callee (f := 62) rfl ?_); refine goesL_ (some 19) rfl rfl Tryd.func62 (by kernel_rfl) rfl #[.int .i32 a0, .int .i32 44032, .int .i32 55203] rfl (by (try simp only [List.map_toArray, List.map_cons, List.map_nil]); first | done | rfl | (simp only [List.length_drop, List.length_take]; rfl)) ?_; (with_reducible refine (tikref6_in.calls a0 44032 55203 false _ A15.out).mono ?_); rintro e w' ⟨rfl, ⟨nd, rfl⟩⟩; refine ⟨_, rfl, ?_⟩) | ((with_reducible refine gate_callee (f := 62) rfl ?_); refine goesL_ (some 21) rfl rfl Tryd.func62 (by kernel_rfl) rfl #[.int .i32 a0, .int .i32 63744, .int .i32 64255] rfl (by (try simp only [List.map_toArray, List.map_cons, List.map_nil]); first | done | rfl | (simp only [List.length_drop, List.length_take]; rfl)) ?_; (with_reducible refine (tikref6_in.calls a0 63744 64255 false _ A17.out).mono ?_); rintro e w' ⟨rfl, ⟨nd, rfl⟩⟩; refine ⟨_, rfl, ?_⟩) | ((with_reducible refine gate_callee (f := 62) rfl ?_); refine goesL_ (some 23) rfl rfl Tryd.func62 (by kernel_rfl) rfl #[.int .i32 a0, .int .i32 65072, .int .i32 65135] rfl (by (try simp only [List.map_toArray, List.map_cons, List.map_nil]); first | done | rfl | (simp only [List.length_drop, List.length_take]; rfl)) ?_; (with_reducible refine (tikref6_in.calls a0 65072 65135 false _ A19.out).mono ?_); rintro e w' ⟨rfl, ⟨nd, rfl⟩⟩; refine ⟨_, rfl, ?_⟩) | ((with_reducible refine gate_callee (f := 62) rfl ?_); refine goesL_ (some 25) rfl rfl Tryd.func62 (by kernel_rfl) rfl #[.int .i32 a0, .int .i32 65280, .int .i32 65376] rfl (by (try simp only [List.map_toArray, List.map_cons, List.map_nil]); first | done | rfl | (simp only [List.length_drop, List.length_take]; rfl)) ?_; (with_reducible refine (tikref6_in.calls a0 65280 65376 false _ A21.out).mono ?_); rintro e w' ⟨rfl, ⟨nd, rfl⟩⟩; refine ⟨_, rfl, ?_⟩) | ((with_reducible refine gate_callee (f := 62) rfl ?_); refine goesL_ (some 27) rfl rfl Tryd.func62 (by kernel_rfl) rfl #[.int .i32 a0, .int .i32 65504, .int .i32 65510] rfl (by (try simp only [List.map_toArray, List.map_cons, List.map_nil]); first | done | rfl | (simp only [List.length_drop, List.length_take]; rfl)) ?_; (with_reducible refine (tikref6_in.calls a0 65504 65510 false _ A23.out).mono ?_); rintro e w' ⟨rfl, ⟨nd, rfl⟩⟩; refine ⟨_, rfl, ?_⟩) | ((with_reducible refine gate_callee (f := 62) rfl ?_); refine goesL_ (some 29) rfl rfl Tryd.func62 (by kernel_rfl) rfl #[.int .i32 a0, .int .i32 127744, .int .i32 128591] rfl (by (try simp only [List.map_toArray, List.map_cons, List.map_nil]); first | done | rfl | (simp only [List.length_drop, List.length_take]; rfl)) ?_; (with_reducible refine (tikref6_in.calls a0 127744 128591 false _ A25.out).mono ?_); rintro e w' ⟨rfl, ⟨nd, rfl⟩⟩; refine ⟨_, rfl, ?_⟩) | ((with_reducible refine gate_callee (f := 62) rfl ?_); refine goesL_ (some 31) rfl rfl Tryd.func62 (by kernel_rfl) rfl #[.int .i32 a0, .int .i32 129280, .int .i32 129535] rfl (by (try simp only [List.map_toArray, List.map_cons, List.map_nil]); first | done | rfl | (simp only [List.length_drop, List.length_take]; rfl)) ?_; (with_reducible refine (tikref6_in.calls a0 129280 129535 true _ A27.out).mono ?_); rintro e w' ⟨rfl, ⟨nd, rfl⟩⟩; refine ⟨_, rfl, ?_⟩))
                          go_ret
                          exact ⟨by first | rfl | (simp; done) | (simp [*]; done), by repeat (first | exact Drawn0.refl _ | apply Drawn0.step)⟩
                        · replace c28 := Bool.eq_false_iff.mpr c28
                          subst c28
                          have H1 : ((tikref6_in.f a0 131072 262141).bind fun t117 => (if t117 = true then (some 2) else (some 1))) = some r := by rw [if_neg (show ¬ (false = true) by decide)] at H; exact H
                          clear H
                          have H := H1
                          clear H1
                          replace H := Option.bind_eq_some_iff.mp H
                          obtain ⟨t117, A290, H⟩ := H
                          replace H : (if t117 = true then (some 2) else (some 1)) = some r := H
                          have A29 := Aside0.mk A290
                          clear A290
                          by_cases c30 : t117 = true
                          · subst c30
                            have H1 : (some 2) = some r := by rw [if_pos rfl] at H; exact H
                            clear H
                            have H := H1
                            clear H1
                            obtain rfl := Option.some.inj H
                            go_wp2_with (first | ((with_reducible refine gate_callee (f := 62) rfl ?_); refine goesL_ (some 15) rfl rfl Tryd.func62 (by kernel_rfl) rfl #[.int .i32 a0, .int .i32 4352, .int .i32 4447] rfl (by (try simp only [List.map_toArray, List.map_cons, List.map_nil]); first | done | rfl | (simp only [List.length_drop, List.length_take]; rfl)) ?_; (with_reducible refine (tikref6_in.calls a0 4352 4447 false _ A11.out).mono ?_); rintro e w' ⟨rfl, ⟨nd, rfl⟩⟩; refine ⟨_, rfl, ?_⟩) | ((with_reducible refine gate_callee (f := 62) rfl ?_); refine goesL_ (some 17) rfl rfl Tryd.func62 (by kernel_rfl) rfl #[.int .i32 a0, .int .i32 11904, .int .i32 42191] rfl (by (try simp only [List.map_toArray, List.map_cons, List.map_nil]); first | done | rfl | (simp only [List.length_drop, List.length_take]; rfl)) ?_; (with_reducible refine (tikref6_in.calls a0 11904 42191 false _ A13.out).mono ?_); rintro e w' ⟨rfl, ⟨nd, rfl⟩⟩; refine ⟨_, rfl, ?_⟩) | ((with_reducible refine gate_callee (f := 62) rfl ?_); refine goesL_ (some 19) rfl rfl Tryd.func62 (by kernel_rfl) rfl #[.int .i32 a0, .int .i32 44032, .int .i32 55203] rfl (by (try simp only [List.map_toArray, List.map_cons, List.map_nil]); first | done | rfl | (simp only [List.length_drop, List.length_take]; rfl)) ?_; (with_reducible refine (tikref6_in.calls a0 44032 55203 false _ A15.out).mono ?_); rintro e w' ⟨rfl, ⟨nd, rfl⟩⟩; refine ⟨_, rfl, ?_⟩) | ((with_reducible refine gate_callee (f := 62) rfl ?_); refine goesL_ (some 21) rfl rfl Tryd.func62 (by kernel_rfl) rfl #[.int .i32 a0, .int .i32 63744, .int .i32 64255] rfl (by (try simp only [List.map_toArray, List.map_cons, List.map_nil]); first | done | rfl | (simp only [List.length_drop, List.length_take]; rfl)) ?_; (with_reducible refine (tikref6_in.calls a0 63744 64255 false _ A17.out).mono ?_); rintro e w' ⟨rfl, ⟨nd, rfl⟩⟩; refine ⟨_, rfl, ?_⟩) | ((with_reducible refine gate_callee (f := 62) rfl ?_); refine goesL_ (some 23) rfl rfl Tryd.func62 (by kernel_rfl) rfl #[.int .i32 a0, .int .i32 65072, .int .i32 65135] rfl (by (try simp only [List.map_toArray, List.map_cons, List.map_nil]); first | done | rfl | (simp only [List.length_drop, List.length_take]; rfl)) ?_; (with_reducible refine (tikref6_in.calls a0 65072 65135 false _ A19.out).mono ?_); rintro e w' ⟨rfl, ⟨nd, rfl⟩⟩; refine ⟨_, rfl, ?_⟩) | ((with_reducible refine gate_callee (f := 62) rfl ?_); refine goesL_ (some 25) rfl rfl Tryd.func62 (by kernel_rfl) rfl #[.int .i32 a0, .int .i32 65280, .int .i32 65376] rfl (by (try simp only [List.map_toArray, List.map_cons, List.map_nil]); first | done | rfl | (simp only [List.length_drop, List.length_take]; rfl)) ?_; (with_reducible refine (tikref6_in.calls a0 65280 65376 false _ A21.out).mono ?_); rintro e w' ⟨rfl, ⟨nd, rfl⟩⟩; refine ⟨_, rfl, ?_⟩) | ((with_reducible refine gate_callee (f := 62) rfl ?_); refine goesL_ (some 27) rfl rfl Tryd.func62 (by kernel_rfl) rfl #[.int .i32 a0, .int .i32 65504, .int .i32 65510] rfl (by (try simp only [List.map_toArray, List.map_cons, List.map_nil]); first | done | rfl | (simp only [List.length_drop, List.length_take]; rfl)) ?_; (with_reducible refine (tikref6_in.calls a0 65504 65510 false _ A23.out).mono ?_); rintro e w' ⟨rfl, ⟨nd, rfl⟩⟩; refine ⟨_, rfl, ?_⟩) | ((with_reducible refine gate_callee (f := 62) rfl ?_); refine goesL_ (some 29) rfl rfl Tryd.func62 (by kernel_rfl) rfl #[.int .i32 a0, .int .i32 127744, .int .i32 128591] rfl (by (try simp only [List.map_toArray, List.map_cons, List.map_nil]); first | done | rfl | (simp only [List.length_drop, List.length_take]; rfl)) ?_; (with_reducible refine (tikref6_in.calls a0 127744 128591 false _ A25.out).mono ?_); rintro e w' ⟨rfl, ⟨nd, rfl⟩⟩; refine ⟨_, rfl, ?_⟩) | ((with_reducible refine gate_callee (f := 62) rfl ?_); refine goesL_ (some 31) rfl rfl Tryd.func62 (by kernel_rfl) rfl #[.int .i32 a0, .int .i32 129280, .int .i32 129535] rfl (by (try simp only [List.map_toArray, List.map_cons, List.map_nil]); first | done | rfl | (simp only [List.length_drop, List.length_take]; rfl)) ?_; (with_reducible refine (tikref6_in.calls a0 129280 129535 false _ A27.out).mono ?_); rintro e w' ⟨rfl, ⟨nd, rfl⟩⟩; refine ⟨_, rfl, ?_⟩) | ((with_reducible refine gate_callee (f := 62) rfl ?_); refine goesL_ (some 33) rfl rfl Tryd.func62 (by kernel_rfl) rfl #[.int .i32 a0, .int .i32 131072, .int .i32 262141] rfl (by (try simp only [List.map_toArray, List.map_cons, List.map_nil]); first | done | rfl | (simp only [List.length_drop, List.length_take]; rfl)) ?_; (with_reducible refine (tikref6_in.calls a0 131072 262141 true _ A29.out).mono ?_); rintro e w' ⟨rfl, ⟨nd, rfl⟩⟩; refine ⟨_, rfl, ?_⟩))
                            go_ret
                            exact ⟨by first | rfl | (simp; done) | (simp [*]; done), by repeat (first | exact Drawn0.refl _ | apply Drawn0.step)⟩
                          · replace c30 := Bool.eq_false_iff.mpr c30
                            subst c30
                            have H1 : (some 1) = some r := by rw [if_neg (show ¬ (false = true) by decide)] at H; exact H
                            clear H
                            have H := H1
                            clear H1
                            obtain rfl := Option.some.inj H
                            go_wp2_with (first | ((with_reducible refine gate_callee (f := 62) rfl ?_); refine goesL_ (some 15) rfl rfl Tryd.func62 (by kernel_rfl) rfl #[.int .i32 a0, .int .i32 4352, .int .i32 4447] rfl (by (try simp only [List.map_toArray, List.map_cons, List.map_nil]); first | done | rfl | (simp only [List.length_drop, List.length_take]; rfl)) ?_; (with_reducible refine (tikref6_in.calls a0 4352 4447 false _ A11.out).mono ?_); rintro e w' ⟨rfl, ⟨nd, rfl⟩⟩; refine ⟨_, rfl, ?_⟩) | ((with_reducible refine gate_callee (f := 62) rfl ?_); refine goesL_ (some 17) rfl rfl Tryd.func62 (by kernel_rfl) rfl #[.int .i32 a0, .int .i32 11904, .int .i32 42191] rfl (by (try simp only [List.map_toArray, List.map_cons, List.map_nil]); first | done | rfl | (simp only [List.length_drop, List.length_take]; rfl)) ?_; (with_reducible refine (tikref6_in.calls a0 11904 42191 false _ A13.out).mono ?_); rintro e w' ⟨rfl, ⟨nd, rfl⟩⟩; refine ⟨_, rfl, ?_⟩) | ((with_reducible refine gate_callee (f := 62) rfl ?_); refine goesL_ (some 19) rfl rfl Tryd.func62 (by kernel_rfl) rfl #[.int .i32 a0, .int .i32 44032, .int .i32 55203] rfl (by (try simp only [List.map_toArray, List.map_cons, List.map_nil]); first | done | rfl | (simp only [List.length_drop, List.length_take]; rfl)) ?_; (with_reducible refine (tikref6_in.calls a0 44032 55203 false _ A15.out).mono ?_); rintro e w' ⟨rfl, ⟨nd, rfl⟩⟩; refine ⟨_, rfl, ?_⟩) | ((with_reducible refine gate_callee (f := 62) rfl ?_); refine goesL_ (some 21) rfl rfl Tryd.func62 (by kernel_rfl) rfl #[.int .i32 a0, .int .i32 63744, .int .i32 64255] rfl (by (try simp only [List.map_toArray, List.map_cons, List.map_nil]); first | done | rfl | (simp only [List.length_drop, List.length_take]; rfl)) ?_; (with_reducible refine (tikref6_in.calls a0 63744 64255 false _ A17.out).mono ?_); rintro e w' ⟨rfl, ⟨nd, rfl⟩⟩; refine ⟨_, rfl, ?_⟩) | ((with_reducible refine gate_callee (f := 62) rfl ?_); refine goesL_ (some 23) rfl rfl Tryd.func62 (by kernel_rfl) rfl #[.int .i32 a0, .int .i32 65072, .int .i32 65135] rfl (by (try simp only [List.map_toArray, List.map_cons, List.map_nil]); first | done | rfl | (simp only [List.length_drop, List.length_take]; rfl)) ?_; (with_reducible refine (tikref6_in.calls a0 65072 65135 false _ A19.out).mono ?_); rintro e w' ⟨rfl, ⟨nd, rfl⟩⟩; refine ⟨_, rfl, ?_⟩) | ((with_reducible refine gate_callee (f := 62) rfl ?_); refine goesL_ (some 25) rfl rfl Tryd.func62 (by kernel_rfl) rfl #[.int .i32 a0, .int .i32 65280, .int .i32 65376] rfl (by (try simp only [List.map_toArray, List.map_cons, List.map_nil]); first | done | rfl | (simp only [List.length_drop, List.length_take]; rfl)) ?_; (with_reducible refine (tikref6_in.calls a0 65280 65376 false _ A21.out).mono ?_); rintro e w' ⟨rfl, ⟨nd, rfl⟩⟩; refine ⟨_, rfl, ?_⟩) | ((with_reducible refine gate_callee (f := 62) rfl ?_); refine goesL_ (some 27) rfl rfl Tryd.func62 (by kernel_rfl) rfl #[.int .i32 a0, .int .i32 65504, .int .i32 65510] rfl (by (try simp only [List.map_toArray, List.map_cons, List.map_nil]); first | done | rfl | (simp only [List.length_drop, List.length_take]; rfl)) ?_; (with_reducible refine (tikref6_in.calls a0 65504 65510 false _ A23.out).mono ?_); rintro e w' ⟨rfl, ⟨nd, rfl⟩⟩; refine ⟨_, rfl, ?_⟩) | ((with_reducible refine gate_callee (f := 62) rfl ?_); refine goesL_ (some 29) rfl rfl Tryd.func62 (by kernel_rfl) rfl #[.int .i32 a0, .int .i32 127744, .int .i32 128591] rfl (by (try simp only [List.map_toArray, List.map_cons, List.map_nil]); first | done | rfl | (simp only [List.length_drop, List.length_take]; rfl)) ?_; (with_reducible refine (tikref6_in.calls a0 127744 128591 false _ A25.out).mono ?_); rintro e w' ⟨rfl, ⟨nd, rfl⟩⟩; refine ⟨_, rfl, ?_⟩) | ((with_reducible refine gate_callee (f := 62) rfl ?_); refine goesL_ (some 31) rfl rfl Tryd.func62 (by kernel_rfl) rfl #[.int .i32 a0, .int .i32 129280, .int .i32 129535] rfl (by (try simp only [List.map_toArray, List.map_cons, List.map_nil]); first | done | rfl | (simp only [List.length_drop, List.length_take]; rfl)) ?_; (with_reducible refine (tikref6_in.calls a0 129280 129535 false _ A27.out).mono ?_); rintro e w' ⟨rfl, ⟨nd, rfl⟩⟩; refine ⟨_, rfl, ?_⟩) | ((with_reducible refine gate_callee (f := 62) rfl ?_); refine goesL_ (some 33) rfl rfl Tryd.func62 (by kernel_rfl) rfl #[.int .i32 a0, .int .i32 131072, .int .i32 262141] rfl (by (try simp only [List.map_toArray, List.map_cons, List.map_nil]); first | done | rfl | (simp only [List.length_drop, List.length_take]; rfl)) ?_; (with_reducible refine (tikref6_in.calls a0 131072 262141 false _ A29.out).mono ?_); rintro e w' ⟨rfl, ⟨nd, rfl⟩⟩; refine ⟨_, rfl, ?_⟩))
                            go_ret
                            exact ⟨by first | rfl | (simp; done) | (simp [*]; done), by repeat (first | exact Drawn0.refl _ | apply Drawn0.step)⟩
def tikref6_May.f (k : Nat) (a0_0 : Int) (a0_1 : Int) (a0_2 : Int) (a0_3 : Int) (a0_4 : Int) : Option (Bool) := (tikref6_Width.f k a0_0).bind fun t119 => ((tikref6_MayAttr.f a0_1 a0_2 a0_3).bind fun t120 => (if t120 = true then (if a0_4 = 0 then (if t119 = 1 then (some true) else (if a0_4 = 1 then (if t119 = 2 then (some true) else (if a0_4 = 2 then (some (a0_0 == 0)) else (some false))) else (if a0_4 = 2 then (some (a0_0 == 0)) else (some false)))) else (if a0_4 = 1 then (if t119 = 2 then (some true) else (if a0_4 = 2 then (some (a0_0 == 0)) else (some false))) else (if a0_4 = 2 then (some (a0_0 == 0)) else (some false)))) else (some false)))
set_option maxHeartbeats 8000000 in
set_option maxRecDepth 100000 in
theorem tikref6_May.calls (k : Nat) (a0_0 : Int) (a0_1 : Int) (a0_2 : Int) (a0_3 : Int) (a0_4 : Int) (r : Bool) (w : World) (h : tikref6_May.f k a0_0 a0_1 a0_2 a0_3 a0_4 = some r) :
    Calls Tryd.prog 53 #[.agg #[.int .i32 a0_0, .int .i64 a0_1, .int .i64 a0_2, .int .i64 a0_3, .int .i64 a0_4]] w fun e w' => e = .returned (.bool r) ∧ Below w.heap.size w w' := by
  have hu32 := Tryd.underlying32
  have hu23 := Tryd.underlying23
  have HB := Aside0.mk (Below.refl w.heap.size w)
  have H : ((tikref6_Width.f k a0_0).bind fun t119 => ((tikref6_MayAttr.f a0_1 a0_2 a0_3).bind fun t120 => (if t120 = true then (if a0_4 = 0 then (if t119 = 1 then (some true) else (if a0_4 = 1 then (if t119 = 2 then (some true) else (if a0_4 = 2 then (some (a0_0 == 0)) else (some false))) else (if a0_4 = 2 then (some (a0_0 == 0)) else (some false)))) else (if a0_4 = 1 then (if t119 = 2 then (some true) else (if a0_4 = 2 then (some (a0_0 == 0)) else (some false))) else (if a0_4 = 2 then (some (a0_0 == 0)) else (some false)))) else (some false)))) = some r := h
  clear h
  replace H := Option.bind_eq_some_iff.mp H
  obtain ⟨t119, A20, H⟩ := H
  replace H : ((tikref6_MayAttr.f a0_1 a0_2 a0_3).bind fun t120 => (if t120 = true then (if a0_4 = 0 then (if t119 = 1 then (some true) else (if a0_4 = 1 then (if t119 = 2 then (some true) else (if a0_4 = 2 then (some (a0_0 == 0)) else (some false))) else (if a0_4 = 2 then (some (a0_0 == 0)) else (some false)))) else (if a0_4 = 1 then (if t119 = 2 then (some true) else (if a0_4 = 2 then (some (a0_0 == 0)) else (some false))) else (if a0_4 = 2 then (some (a0_0 == 0)) else (some false)))) else (some false))) = some r := H
  have A2 := Aside0.mk A20
  clear A20
  replace H := Option.bind_eq_some_iff.mp H
  obtain ⟨t120, A30, H⟩ := H
  replace H : (if t120 = true then (if a0_4 = 0 then (if t119 = 1 then (some true) else (if a0_4 = 1 then (if t119 = 2 then (some true) else (if a0_4 = 2 then (some (a0_0 == 0)) else (some false))) else (if a0_4 = 2 then (some (a0_0 == 0)) else (some false)))) else (if a0_4 = 1 then (if t119 = 2 then (some true) else (if a0_4 = 2 then (some (a0_0 == 0)) else (some false))) else (if a0_4 = 2 then (some (a0_0 == 0)) else (some false)))) else (some false)) = some r := H
  have A3 := Aside0.mk A30
  clear A30
  by_cases c4 : t120 = true
  · subst c4
    have H1 : (if a0_4 = 0 then (if t119 = 1 then (some true) else (if a0_4 = 1 then (if t119 = 2 then (some true) else (if a0_4 = 2 then (some (a0_0 == 0)) else (some false))) else (if a0_4 = 2 then (some (a0_0 == 0)) else (some false)))) else (if a0_4 = 1 then (if t119 = 2 then (some true) else (if a0_4 = 2 then (some (a0_0 == 0)) else (some false))) else (if a0_4 = 2 then (some (a0_0 == 0)) else (some false)))) = some r := by rw [if_pos rfl] at H; exact H
    clear H
    have H := H1
    clear H1
    by_cases c5 : a0_4 = 0
    · rw [if_pos c5] at H
      have c5b0 : (a0_4 == 0) = true := beq_iff_eq.mpr c5
      have c5b1 : (a0_4 != 0) = false := bne_eq_false_iff_eq.mpr c5
      clear c5
      by_cases c6 : t119 = 1
      · rw [if_pos c6] at H
        have c6b0 : (t119 == 1) = true := beq_iff_eq.mpr c6
        have c6b1 : (t119 != 1) = false := bne_eq_false_iff_eq.mpr c6
        clear c6
        obtain rfl := Option.some.inj H
        go_enter Tryd.func53, Tryd.ntmps53
        go_wp2_with (first | ((with_reducible refine gate_dst (N := 1) rfl ?_); refine box_event ?hg (N := 1) ?hd (cs := #[.int .i32 a0_0, .int .i64 a0_1, .int .i64 a0_2, .int .i64 a0_3, .int .i64 a0_4]) (t := 32) ?hr ?_; (case hd => rfl); (case hg => rfl); (case hr => first | (go_simp; done) | (go_simp; rfl)); intro gb118 hg w7 hbox hb; have n0_ := Aside0.mk (below_step (by repeat (first | (with_reducible first | exact HB.out | apply below_alloc | apply pw_below_drewN | apply below_drew1) | exact HB.out)) hb); have n1_ := Aside0.mk (hbox); have n2_ := Aside0.mk ((by rw [hg]; exact (below_size (by repeat (first | (with_reducible first | exact HB.out | apply below_alloc | apply pw_below_drewN | apply below_drew1) | exact HB.out))) : w.heap.size ≤ gb118)); have n3_ := Aside0.mk ((by rw [hg]; exact (below_size (by repeat (first | (with_reducible first | exact HB.out | apply below_alloc | apply pw_below_drewN | apply below_drew1) | exact HB.out))) : w.heap.size ≤ gb118)); clear HB; have HB := n0_; have BK118 := n1_; have GW118 := n2_; have GE118 := n3_; clear n0_ n1_ n2_ n3_; clear hb hbox hg; have hcz8_0 : w7.cell? ⟨gb118, 0, none⟩ = some (.int .i32 a0_0) := (blk_cell BK118.out 0).trans rfl; have hcz8_1 : w7.cell? ⟨gb118, 1, none⟩ = some (.int .i64 a0_1) := (blk_cell BK118.out 1).trans rfl; have hcz8_2 : w7.cell? ⟨gb118, 2, none⟩ = some (.int .i64 a0_2) := (blk_cell BK118.out 2).trans rfl; have hcz8_3 : w7.cell? ⟨gb118, 3, none⟩ = some (.int .i64 a0_3) := (blk_cell BK118.out 3).trans rfl; have hcz8_4 : w7.cell? ⟨gb118, 4, none⟩ = some (.int .i64 a0_4) := (blk_cell BK118.out 4).trans rfl; have hfz8_0 := blk_frozen BK118.out 0; have hfz8_1 := blk_frozen BK118.out 1; have hfz8_2 := blk_frozen BK118.out 2; have hfz8_3 := blk_frozen BK118.out 3; have hfz8_4 := blk_frozen BK118.out 4) | ((with_reducible refine gate_callee (f := 58) rfl ?_); refine goesL_ (some 6) rfl rfl Tryd.func58 (by kernel_rfl) rfl #[.int .i32 a0_0] rfl (by (try simp only [List.map_toArray, List.map_cons, List.map_nil]); first | done | rfl | (simp only [List.length_drop, List.length_take]; rfl)) ?_; (with_reducible refine (tikref6_Width.calls k a0_0 t119 _ A2.out).mono ?_); rintro e w' ⟨rfl, ⟨nd, rfl⟩⟩; refine ⟨_, rfl, ?_⟩) | ((with_reducible refine gate_callee (f := 55) rfl ?_); refine goesL_ (some 9) rfl rfl Tryd.func55 (by kernel_rfl) rfl #[.agg #[.int .i64 a0_1, .int .i64 a0_2, .int .i64 a0_3]] rfl (by (try simp only [List.map_toArray, List.map_cons, List.map_nil]); first | done | rfl | (simp only [List.length_drop, List.length_take]; rfl)) ?_; (with_reducible refine (tikref6_MayAttr.calls a0_1 a0_2 a0_3 true _ A3.out).mono ?_); rintro e w9 ⟨rfl, hb⟩; refine ⟨_, rfl, ?_⟩; have n0_ := Aside0.mk (blk_below (g := gb118) (o := .cells #[.int .i32 a0_0, .int .i64 a0_1, .int .i64 a0_2, .int .i64 a0_3, .int .i64 a0_4] 32 (0, 0)) (by (with_reducible repeat (first | refine blk_drewN ?_ _ | refine blk_drew ?_ | refine blk_alloc ?_ _)); exact BK118.out) hb); have n1_ := Aside0.mk (below_step (by repeat (first | (with_reducible first | exact HB.out | apply below_alloc | apply pw_below_drewN | apply below_drew1 | refine below_set ?_ GE118.out) | exact HB.out)) hb); clear BK118; clear HB; have BK118 := n0_; have HB := n1_; clear n0_ n1_; (try clear hb); (try clear hb2); (try clear hk); (try clear hi); have hcz10_0 : w9.cell? ⟨gb118, 0, none⟩ = some (.int .i32 a0_0) := (blk_cell BK118.out 0).trans rfl; have hcz10_1 : w9.cell? ⟨gb118, 1, none⟩ = some (.int .i64 a0_1) := (blk_cell BK118.out 1).trans rfl; have hcz10_2 : w9.cell? ⟨gb118, 2, none⟩ = some (.int .i64 a0_2) := (blk_cell BK118.out 2).trans rfl; have hcz10_3 : w9.cell? ⟨gb118, 3, none⟩ = some (.int .i64 a0_3) := (blk_cell BK118.out 3).trans rfl; have hcz10_4 : w9.cell? ⟨gb118, 4, none⟩ = some (.int .i64 a0_4) := (blk_cell BK118.out 4).trans rfl; have hfz10_0 := blk_frozen BK118.out 0; have hfz10_1 := blk_frozen BK118.out 1; have hfz10_2 := blk_frozen BK118.out 2; have hfz10_3 := blk_frozen BK118.out 3; have hfz10_4 := blk_frozen BK118.out 4))
        go_ret
        exact ⟨by first | rfl | (simp [errW_none, errW_some] <;> rfl) | (simp [*, errW_none, errW_some] <;> rfl), by repeat (first | (with_reducible first | exact HB.out | apply below_alloc | apply pw_below_drewN | apply below_drew1 | refine below_set ?_ GE118.out) | exact HB.out)⟩
      · rw [if_neg c6] at H
        have c6b0 : (t119 == 1) = false := beq_eq_false_iff_ne.mpr c6
        have c6b1 : (t119 != 1) = true := bne_iff_ne.mpr c6
        by_cases c11 : a0_4 = 1
        · rw [if_pos c11] at H
          have c11b0 : (a0_4 == 1) = true := beq_iff_eq.mpr c11
          have c11b1 : (a0_4 != 1) = false := bne_eq_false_iff_eq.mpr c11
          clear c11
          by_cases c12 : t119 = 2
          · rw [if_pos c12] at H
            have c12b0 : (t119 == 2) = true := beq_iff_eq.mpr c12
            have c12b1 : (t119 != 2) = false := bne_eq_false_iff_eq.mpr c12
            clear c12
            obtain rfl := Option.some.inj H
            go_enter Tryd.func53, Tryd.ntmps53
            go_wp2_with (first | ((with_reducible refine gate_dst (N := 1) rfl ?_); refine box_event ?hg (N := 1) ?hd (cs := #[.int .i32 a0_0, .int .i64 a0_1, .int .i64 a0_2, .int .i64 a0_3, .int .i64 a0_4]) (t := 32) ?hr ?_; (case hd => rfl); (case hg => rfl); (case hr => first | (go_simp; done) | (go_simp; rfl)); intro gb118 hg w13 hbox hb; have n0_ := Aside0.mk (below_step (by repeat (first | (with_reducible first | exact HB.out | apply below_alloc | apply pw_below_drewN | apply below_drew1) | exact HB.out)) hb); have n1_ := Aside0.mk (hbox); have n2_ := Aside0.mk ((by rw [hg]; exact (below_size (by repeat (first | (with_reducible first | exact HB.out | apply below_alloc | apply pw_below_drewN | apply below_drew1) | exact HB.out))) : w.heap.size ≤ gb118)); have n3_ := Aside0.mk ((by rw [hg]; exact (below_size (by repeat (first | (with_reducible first | exact HB.out | apply below_alloc | apply pw_below_drewN | apply below_drew1) | exact HB.out))) : w.heap.size ≤ gb118)); clear HB; have HB := n0_; have BK118 := n1_; have GW118 := n2_; have GE118 := n3_; clear n0_ n1_ n2_ n3_; clear hb hbox hg; have hcz14_0 : w13.cell? ⟨gb118, 0, none⟩ = some (.int .i32 a0_0) := (blk_cell BK118.out 0).trans rfl; have hcz14_1 : w13.cell? ⟨gb118, 1, none⟩ = some (.int .i64 a0_1) := (blk_cell BK118.out 1).trans rfl; have hcz14_2 : w13.cell? ⟨gb118, 2, none⟩ = some (.int .i64 a0_2) := (blk_cell BK118.out 2).trans rfl; have hcz14_3 : w13.cell? ⟨gb118, 3, none⟩ = some (.int .i64 a0_3) := (blk_cell BK118.out 3).trans rfl; have hcz14_4 : w13.cell? ⟨gb118, 4, none⟩ = some (.int .i64 a0_4) := (blk_cell BK118.out 4).trans rfl; have hfz14_0 := blk_frozen BK118.out 0; have hfz14_1 := blk_frozen BK118.out 1; have hfz14_2 := blk_frozen BK118.out 2; have hfz14_3 := blk_frozen BK118.out 3; have hfz14_4 := blk_frozen BK118.out 4) | ((with_reducible refine gate_callee (f := 58) rfl ?_); refine goesL_ (some 6) rfl rfl Tryd.func58 (by kernel_rfl) rfl #[.int .i32 a0_0] rfl (by (try simp only [List.map_toArray, List.map_cons, List.map_nil]); first | done | rfl | (simp only [List.length_drop, List.length_take]; rfl)) ?_; (with_reducible refine (tikref6_Width.calls k a0_0 t119 _ A2.out).mono ?_); rintro e w' ⟨rfl, ⟨nd, rfl⟩⟩; refine ⟨_, rfl, ?_⟩) | ((with_reducible refine gate_callee (f := 55) rfl ?_); refine goesL_ (some 9) rfl rfl Tryd.func55 (by kernel_rfl) rfl #[.agg #[.int .i64 a0_1, .int .i64 a0_2, .int .i64 a0_3]] rfl (by (try simp only [List.map_toArray, List.map_cons, List.map_nil]); first | done | rfl | (simp only [List.length_drop, List.length_take]; rfl)) ?_; (with_reducible refine (tikref6_MayAttr.calls a0_1 a0_2 a0_3 true _ A3.out).mono ?_); rintro e w15 ⟨rfl, hb⟩; refine ⟨_, rfl, ?_⟩; have n0_ := Aside0.mk (blk_below (g := gb118) (o := .cells #[.int .i32 a0_0, .int .i64 a0_1, .int .i64 a0_2, .int .i64 a0_3, .int .i64 a0_4] 32 (0, 0)) (by (with_reducible repeat (first | refine blk_drewN ?_ _ | refine blk_drew ?_ | refine blk_alloc ?_ _)); exact BK118.out) hb); have n1_ := Aside0.mk (below_step (by repeat (first | (with_reducible first | exact HB.out | apply below_alloc | apply pw_below_drewN | apply below_drew1 | refine below_set ?_ GE118.out) | exact HB.out)) hb); clear BK118; clear HB; have BK118 := n0_; have HB := n1_; clear n0_ n1_; (try clear hb); (try clear hb2); (try clear hk); (try clear hi); have hcz16_0 : w15.cell? ⟨gb118, 0, none⟩ = some (.int .i32 a0_0) := (blk_cell BK118.out 0).trans rfl; have hcz16_1 : w15.cell? ⟨gb118, 1, none⟩ = some (.int .i64 a0_1) := (blk_cell BK118.out 1).trans rfl; have hcz16_2 : w15.cell? ⟨gb118, 2, none⟩ = some (.int .i64 a0_2) := (blk_cell BK118.out 2).trans rfl; have hcz16_3 : w15.cell? ⟨gb118, 3, none⟩ = some (.int .i64 a0_3) := (blk_cell BK118.out 3).trans rfl; have hcz16_4 : w15.cell? ⟨gb118, 4, none⟩ = some (.int .i64 a0_4) := (blk_cell BK118.out 4).trans rfl; have hfz16_0 := blk_frozen BK118.out 0; have hfz16_1 := blk_frozen BK118.out 1; have hfz16_2 := blk_frozen BK118.out 2; have hfz16_3 := blk_frozen BK118.out 3; have hfz16_4 := blk_frozen BK118.out 4))
            go_ret
            exact ⟨by first | rfl | (simp [errW_none, errW_some] <;> rfl) | (simp [*, errW_none, errW_some] <;> rfl), by repeat (first | (with_reducible first | exact HB.out | apply below_alloc | apply pw_below_drewN | apply below_drew1 | refine below_set ?_ GE118.out) | exact HB.out)⟩
          · rw [if_neg c12] at H
            have c12b0 : (t119 == 2) = false := beq_eq_false_iff_ne.mpr c12
            have c12b1 : (t119 != 2) = true := bne_iff_ne.mpr c12
            by_cases c17 : a0_4 = 2
            · rw [if_pos c17] at H
              have c17b0 : (a0_4 == 2) = true := beq_iff_eq.mpr c17
              have c17b1 : (a0_4 != 2) = false := bne_eq_false_iff_eq.mpr c17
              clear c17
              obtain rfl := Option.some.inj H
              go_enter Tryd.func53, Tryd.ntmps53
              go_wp2_with (first | ((with_reducible refine gate_dst (N := 1) rfl ?_); refine box_event ?hg (N := 1) ?hd (cs := #[.int .i32 a0_0, .int .i64 a0_1, .int .i64 a0_2, .int .i64 a0_3, .int .i64 a0_4]) (t := 32) ?hr ?_; (case hd => rfl); (case hg => rfl); (case hr => first | (go_simp; done) | (go_simp; rfl)); intro gb118 hg w18 hbox hb; have n0_ := Aside0.mk (below_step (by repeat (first | (with_reducible first | exact HB.out | apply below_alloc | apply pw_below_drewN | apply below_drew1) | exact HB.out)) hb); have n1_ := Aside0.mk (hbox); have n2_ := Aside0.mk ((by rw [hg]; exact (below_size (by repeat (first | (with_reducible first | exact HB.out | apply below_alloc | apply pw_below_drewN | apply below_drew1) | exact HB.out))) : w.heap.size ≤ gb118)); have n3_ := Aside0.mk ((by rw [hg]; exact (below_size (by repeat (first | (with_reducible first | exact HB.out | apply below_alloc | apply pw_below_drewN | apply below_drew1) | exact HB.out))) : w.heap.size ≤ gb118)); clear HB; have HB := n0_; have BK118 := n1_; have GW118 := n2_; have GE118 := n3_; clear n0_ n1_ n2_ n3_; clear hb hbox hg; have hcz19_0 : w18.cell? ⟨gb118, 0, none⟩ = some (.int .i32 a0_0) := (blk_cell BK118.out 0).trans rfl; have hcz19_1 : w18.cell? ⟨gb118, 1, none⟩ = some (.int .i64 a0_1) := (blk_cell BK118.out 1).trans rfl; have hcz19_2 : w18.cell? ⟨gb118, 2, none⟩ = some (.int .i64 a0_2) := (blk_cell BK118.out 2).trans rfl; have hcz19_3 : w18.cell? ⟨gb118, 3, none⟩ = some (.int .i64 a0_3) := (blk_cell BK118.out 3).trans rfl; have hcz19_4 : w18.cell? ⟨gb118, 4, none⟩ = some (.int .i64 a0_4) := (blk_cell BK118.out 4).trans rfl; have hfz19_0 := blk_frozen BK118.out 0; have hfz19_1 := blk_frozen BK118.out 1; have hfz19_2 := blk_frozen BK118.out 2; have hfz19_3 := blk_frozen BK118.out 3; have hfz19_4 := blk_frozen BK118.out 4) | ((with_reducible refine gate_callee (f := 58) rfl ?_); refine goesL_ (some 6) rfl rfl Tryd.func58 (by kernel_rfl) rfl #[.int .i32 a0_0] rfl (by (try simp only [List.map_toArray, List.map_cons, List.map_nil]); first | done | rfl | (simp only [List.length_drop, List.length_take]; rfl)) ?_; (with_reducible refine (tikref6_Width.calls k a0_0 t119 _ A2.out).mono ?_); rintro e w' ⟨rfl, ⟨nd, rfl⟩⟩; refine ⟨_, rfl, ?_⟩) | ((with_reducible refine gate_callee (f := 55) rfl ?_); refine goesL_ (some 9) rfl rfl Tryd.func55 (by kernel_rfl) rfl #[.agg #[.int .i64 a0_1, .int .i64 a0_2, .int .i64 a0_3]] rfl (by (try simp only [List.map_toArray, List.map_cons, List.map_nil]); first | done | rfl | (simp only [List.length_drop, List.length_take]; rfl)) ?_; (with_reducible refine (tikref6_MayAttr.calls a0_1 a0_2 a0_3 true _ A3.out).mono ?_); rintro e w20 ⟨rfl, hb⟩; refine ⟨_, rfl, ?_⟩; have n0_ := Aside0.mk (blk_below (g := gb118) (o := .cells #[.int .i32 a0_0, .int .i64 a0_1, .int .i64 a0_2, .int .i64 a0_3, .int .i64 a0_4] 32 (0, 0)) (by (with_reducible repeat (first | refine blk_drewN ?_ _ | refine blk_drew ?_ | refine blk_alloc ?_ _)); exact BK118.out) hb); have n1_ := Aside0.mk (below_step (by repeat (first | (with_reducible first | exact HB.out | apply below_alloc | apply pw_below_drewN | apply below_drew1 | refine below_set ?_ GE118.out) | exact HB.out)) hb); clear BK118; clear HB; have BK118 := n0_; have HB := n1_; clear n0_ n1_; (try clear hb); (try clear hb2); (try clear hk); (try clear hi); have hcz21_0 : w20.cell? ⟨gb118, 0, none⟩ = some (.int .i32 a0_0) := (blk_cell BK118.out 0).trans rfl; have hcz21_1 : w20.cell? ⟨gb118, 1, none⟩ = some (.int .i64 a0_1) := (blk_cell BK118.out 1).trans rfl; have hcz21_2 : w20.cell? ⟨gb118, 2, none⟩ = some (.int .i64 a0_2) := (blk_cell BK118.out 2).trans rfl; have hcz21_3 : w20.cell? ⟨gb118, 3, none⟩ = some (.int .i64 a0_3) := (blk_cell BK118.out 3).trans rfl; have hcz21_4 : w20.cell? ⟨gb118, 4, none⟩ = some (.int .i64 a0_4) := (blk_cell BK118.out 4).trans rfl; have hfz21_0 := blk_frozen BK118.out 0; have hfz21_1 := blk_frozen BK118.out 1; have hfz21_2 := blk_frozen BK118.out 2; have hfz21_3 := blk_frozen BK118.out 3; have hfz21_4 := blk_frozen BK118.out 4))
              go_ret
              exact ⟨by first | rfl | (simp [errW_none, errW_some] <;> rfl) | (simp [*, errW_none, errW_some] <;> rfl), by repeat (first | (with_reducible first | exact HB.out | apply below_alloc | apply pw_below_drewN | apply below_drew1 | refine below_set ?_ GE118.out) | exact HB.out)⟩
            · rw [if_neg c17] at H
              have c17b0 : (a0_4 == 2) = false := beq_eq_false_iff_ne.mpr c17
              have c17b1 : (a0_4 != 2) = true := bne_iff_ne.mpr c17
              obtain rfl := Option.some.inj H
              go_enter Tryd.func53, Tryd.ntmps53
              go_wp2_with (first | ((with_reducible refine gate_dst (N := 1) rfl ?_); refine box_event ?hg (N := 1) ?hd (cs := #[.int .i32 a0_0, .int .i64 a0_1, .int .i64 a0_2, .int .i64 a0_3, .int .i64 a0_4]) (t := 32) ?hr ?_; (case hd => rfl); (case hg => rfl); (case hr => first | (go_simp; done) | (go_simp; rfl)); intro gb118 hg w22 hbox hb; have n0_ := Aside0.mk (below_step (by repeat (first | (with_reducible first | exact HB.out | apply below_alloc | apply pw_below_drewN | apply below_drew1) | exact HB.out)) hb); have n1_ := Aside0.mk (hbox); have n2_ := Aside0.mk ((by rw [hg]; exact (below_size (by repeat (first | (with_reducible first | exact HB.out | apply below_alloc | apply pw_below_drewN | apply below_drew1) | exact HB.out))) : w.heap.size ≤ gb118)); have n3_ := Aside0.mk ((by rw [hg]; exact (below_size (by repeat (first | (with_reducible first | exact HB.out | apply below_alloc | apply pw_below_drewN | apply below_drew1) | exact HB.out))) : w.heap.size ≤ gb118)); clear HB; have HB := n0_; have BK118 := n1_; have GW118 := n2_; have GE118 := n3_; clear n0_ n1_ n2_ n3_; clear hb hbox hg; have hcz23_0 : w22.cell? ⟨gb118, 0, none⟩ = some (.int .i32 a0_0) := (blk_cell BK118.out 0).trans rfl; have hcz23_1 : w22.cell? ⟨gb118, 1, none⟩ = some (.int .i64 a0_1) := (blk_cell BK118.out 1).trans rfl; have hcz23_2 : w22.cell? ⟨gb118, 2, none⟩ = some (.int .i64 a0_2) := (blk_cell BK118.out 2).trans rfl; have hcz23_3 : w22.cell? ⟨gb118, 3, none⟩ = some (.int .i64 a0_3) := (blk_cell BK118.out 3).trans rfl; have hcz23_4 : w22.cell? ⟨gb118, 4, none⟩ = some (.int .i64 a0_4) := (blk_cell BK118.out 4).trans rfl; have hfz23_0 := blk_frozen BK118.out 0; have hfz23_1 := blk_frozen BK118.out 1; have hfz23_2 := blk_frozen BK118.out 2; have hfz23_3 := blk_frozen BK118.out 3; have hfz23_4 := blk_frozen BK118.out 4) | ((with_reducible refine gate_callee (f := 58) rfl ?_); refine goesL_ (some 6) rfl rfl Tryd.func58 (by kernel_rfl) rfl #[.int .i32 a0_0] rfl (by (try simp only [List.map_toArray, List.map_cons, List.map_nil]); first | done | rfl | (simp only [List.length_drop, List.length_take]; rfl)) ?_; (with_reducible refine (tikref6_Width.calls k a0_0 t119 _ A2.out).mono ?_); rintro e w' ⟨rfl, ⟨nd, rfl⟩⟩; refine ⟨_, rfl, ?_⟩) | ((with_reducible refine gate_callee (f := 55) rfl ?_); refine goesL_ (some 9) rfl rfl Tryd.func55 (by kernel_rfl) rfl #[.agg #[.int .i64 a0_1, .int .i64 a0_2, .int .i64 a0_3]] rfl (by (try simp only [List.map_toArray, List.map_cons, List.map_nil]); first | done | rfl | (simp only [List.length_drop, List.length_take]; rfl)) ?_; (with_reducible refine (tikref6_MayAttr.calls a0_1 a0_2 a0_3 true _ A3.out).mono ?_); rintro e w24 ⟨rfl, hb⟩; refine ⟨_, rfl, ?_⟩; have n0_ := Aside0.mk (blk_below (g := gb118) (o := .cells #[.int .i32 a0_0, .int .i64 a0_1, .int .i64 a0_2, .int .i64 a0_3, .int .i64 a0_4] 32 (0, 0)) (by (with_reducible repeat (first | refine blk_drewN ?_ _ | refine blk_drew ?_ | refine blk_alloc ?_ _)); exact BK118.out) hb); have n1_ := Aside0.mk (below_step (by repeat (first | (with_reducible first | exact HB.out | apply below_alloc | apply pw_below_drewN | apply below_drew1 | refine below_set ?_ GE118.out) | exact HB.out)) hb); clear BK118; clear HB; have BK118 := n0_; have HB := n1_; clear n0_ n1_; (try clear hb); (try clear hb2); (try clear hk); (try clear hi); have hcz25_0 : w24.cell? ⟨gb118, 0, none⟩ = some (.int .i32 a0_0) := (blk_cell BK118.out 0).trans rfl; have hcz25_1 : w24.cell? ⟨gb118, 1, none⟩ = some (.int .i64 a0_1) := (blk_cell BK118.out 1).trans rfl; have hcz25_2 : w24.cell? ⟨gb118, 2, none⟩ = some (.int .i64 a0_2) := (blk_cell BK118.out 2).trans rfl; have hcz25_3 : w24.cell? ⟨gb118, 3, none⟩ = some (.int .i64 a0_3) := (blk_cell BK118.out 3).trans rfl; have hcz25_4 : w24.cell? ⟨gb118, 4, none⟩ = some (.int .i64 a0_4) := (blk_cell BK118.out 4).trans rfl; have hfz25_0 := blk_frozen BK118.out 0; have hfz25_1 := blk_frozen BK118.out 1; have hfz25_2 := blk_frozen BK118.out 2; have hfz25_3 := blk_frozen BK118.out 3; have hfz25_4 := blk_frozen BK118.out 4))
              go_ret
              exact ⟨by first | rfl | (simp [errW_none, errW_some] <;> rfl) | (simp [*, errW_none, errW_some] <;> rfl), by repeat (first | (with_reducible first | exact HB.out | apply below_alloc | apply pw_below_drewN | apply below_drew1 | refine below_set ?_ GE118.out) | exact HB.out)⟩
        · rw [if_neg c11] at H
          have c11b0 : (a0_4 == 1) = false := beq_eq_false_iff_ne.mpr c11
          have c11b1 : (a0_4 != 1) = true := bne_iff_ne.mpr c11
          by_cases c26 : a0_4 = 2
          · rw [if_pos c26] at H
            have c26b0 : (a0_4 == 2) = true := beq_iff_eq.mpr c26
            have c26b1 : (a0_4 != 2) = false := bne_eq_false_iff_eq.mpr c26
            clear c26
            obtain rfl := Option.some.inj H
            go_enter Tryd.func53, Tryd.ntmps53
            go_wp2_with (first | ((with_reducible refine gate_dst (N := 1) rfl ?_); refine box_event ?hg (N := 1) ?hd (cs := #[.int .i32 a0_0, .int .i64 a0_1, .int .i64 a0_2, .int .i64 a0_3, .int .i64 a0_4]) (t := 32) ?hr ?_; (case hd => rfl); (case hg => rfl); (case hr => first | (go_simp; done) | (go_simp; rfl)); intro gb118 hg w27 hbox hb; have n0_ := Aside0.mk (below_step (by repeat (first | (with_reducible first | exact HB.out | apply below_alloc | apply pw_below_drewN | apply below_drew1) | exact HB.out)) hb); have n1_ := Aside0.mk (hbox); have n2_ := Aside0.mk ((by rw [hg]; exact (below_size (by repeat (first | (with_reducible first | exact HB.out | apply below_alloc | apply pw_below_drewN | apply below_drew1) | exact HB.out))) : w.heap.size ≤ gb118)); have n3_ := Aside0.mk ((by rw [hg]; exact (below_size (by repeat (first | (with_reducible first | exact HB.out | apply below_alloc | apply pw_below_drewN | apply below_drew1) | exact HB.out))) : w.heap.size ≤ gb118)); clear HB; have HB := n0_; have BK118 := n1_; have GW118 := n2_; have GE118 := n3_; clear n0_ n1_ n2_ n3_; clear hb hbox hg; have hcz28_0 : w27.cell? ⟨gb118, 0, none⟩ = some (.int .i32 a0_0) := (blk_cell BK118.out 0).trans rfl; have hcz28_1 : w27.cell? ⟨gb118, 1, none⟩ = some (.int .i64 a0_1) := (blk_cell BK118.out 1).trans rfl; have hcz28_2 : w27.cell? ⟨gb118, 2, none⟩ = some (.int .i64 a0_2) := (blk_cell BK118.out 2).trans rfl; have hcz28_3 : w27.cell? ⟨gb118, 3, none⟩ = some (.int .i64 a0_3) := (blk_cell BK118.out 3).trans rfl; have hcz28_4 : w27.cell? ⟨gb118, 4, none⟩ = some (.int .i64 a0_4) := (blk_cell BK118.out 4).trans rfl; have hfz28_0 := blk_frozen BK118.out 0; have hfz28_1 := blk_frozen BK118.out 1; have hfz28_2 := blk_frozen BK118.out 2; have hfz28_3 := blk_frozen BK118.out 3; have hfz28_4 := blk_frozen BK118.out 4) | ((with_reducible refine gate_callee (f := 58) rfl ?_); refine goesL_ (some 6) rfl rfl Tryd.func58 (by kernel_rfl) rfl #[.int .i32 a0_0] rfl (by (try simp only [List.map_toArray, List.map_cons, List.map_nil]); first | done | rfl | (simp only [List.length_drop, List.length_take]; rfl)) ?_; (with_reducible refine (tikref6_Width.calls k a0_0 t119 _ A2.out).mono ?_); rintro e w' ⟨rfl, ⟨nd, rfl⟩⟩; refine ⟨_, rfl, ?_⟩) | ((with_reducible refine gate_callee (f := 55) rfl ?_); refine goesL_ (some 9) rfl rfl Tryd.func55 (by kernel_rfl) rfl #[.agg #[.int .i64 a0_1, .int .i64 a0_2, .int .i64 a0_3]] rfl (by (try simp only [List.map_toArray, List.map_cons, List.map_nil]); first | done | rfl | (simp only [List.length_drop, List.length_take]; rfl)) ?_; (with_reducible refine (tikref6_MayAttr.calls a0_1 a0_2 a0_3 true _ A3.out).mono ?_); rintro e w29 ⟨rfl, hb⟩; refine ⟨_, rfl, ?_⟩; have n0_ := Aside0.mk (blk_below (g := gb118) (o := .cells #[.int .i32 a0_0, .int .i64 a0_1, .int .i64 a0_2, .int .i64 a0_3, .int .i64 a0_4] 32 (0, 0)) (by (with_reducible repeat (first | refine blk_drewN ?_ _ | refine blk_drew ?_ | refine blk_alloc ?_ _)); exact BK118.out) hb); have n1_ := Aside0.mk (below_step (by repeat (first | (with_reducible first | exact HB.out | apply below_alloc | apply pw_below_drewN | apply below_drew1 | refine below_set ?_ GE118.out) | exact HB.out)) hb); clear BK118; clear HB; have BK118 := n0_; have HB := n1_; clear n0_ n1_; (try clear hb); (try clear hb2); (try clear hk); (try clear hi); have hcz30_0 : w29.cell? ⟨gb118, 0, none⟩ = some (.int .i32 a0_0) := (blk_cell BK118.out 0).trans rfl; have hcz30_1 : w29.cell? ⟨gb118, 1, none⟩ = some (.int .i64 a0_1) := (blk_cell BK118.out 1).trans rfl; have hcz30_2 : w29.cell? ⟨gb118, 2, none⟩ = some (.int .i64 a0_2) := (blk_cell BK118.out 2).trans rfl; have hcz30_3 : w29.cell? ⟨gb118, 3, none⟩ = some (.int .i64 a0_3) := (blk_cell BK118.out 3).trans rfl; have hcz30_4 : w29.cell? ⟨gb118, 4, none⟩ = some (.int .i64 a0_4) := (blk_cell BK118.out 4).trans rfl; have hfz30_0 := blk_frozen BK118.out 0; have hfz30_1 := blk_frozen BK118.out 1; have hfz30_2 := blk_frozen BK118.out 2; have hfz30_3 := blk_frozen BK118.out 3; have hfz30_4 := blk_frozen BK118.out 4))
            go_ret
            exact ⟨by first | rfl | (simp [errW_none, errW_some] <;> rfl) | (simp [*, errW_none, errW_some] <;> rfl), by repeat (first | (with_reducible first | exact HB.out | apply below_alloc | apply pw_below_drewN | apply below_drew1 | refine below_set ?_ GE118.out) | exact HB.out)⟩
          · rw [if_neg c26] at H
            have c26b0 : (a0_4 == 2) = false := beq_eq_false_iff_ne.mpr c26
            have c26b1 : (a0_4 != 2) = true := bne_iff_ne.mpr c26
            obtain rfl := Option.some.inj H
            go_enter Tryd.func53, Tryd.ntmps53
            go_wp2_with (first | ((with_reducible refine gate_dst (N := 1) rfl ?_); refine box_event ?hg (N := 1) ?hd (cs := #[.int .i32 a0_0, .int .i64 a0_1, .int .i64 a0_2, .int .i64 a0_3, .int .i64 a0_4]) (t := 32) ?hr ?_; (case hd => rfl); (case hg => rfl); (case hr => first | (go_simp; done) | (go_simp; rfl)); intro gb118 hg w31 hbox hb; have n0_ := Aside0.mk (below_step (by repeat (first | (with_reducible first | exact HB.out | apply below_alloc | apply pw_below_drewN | apply below_drew1) | exact HB.out)) hb); have n1_ := Aside0.mk (hbox); have n2_ := Aside0.mk ((by rw [hg]; exact (below_size (by repeat (first | (with_reducible first | exact HB.out | apply below_alloc | apply pw_below_drewN | apply below_drew1) | exact HB.out))) : w.heap.size ≤ gb118)); have n3_ := Aside0.mk ((by rw [hg]; exact (below_size (by repeat (first | (with_reducible first | exact HB.out | apply below_alloc | apply pw_below_drewN | apply below_drew1) | exact HB.out))) : w.heap.size ≤ gb118)); clear HB; have HB := n0_; have BK118 := n1_; have GW118 := n2_; have GE118 := n3_; clear n0_ n1_ n2_ n3_; clear hb hbox hg; have hcz32_0 : w31.cell? ⟨gb118, 0, none⟩ = some (.int .i32 a0_0) := (blk_cell BK118.out 0).trans rfl; have hcz32_1 : w31.cell? ⟨gb118, 1, none⟩ = some (.int .i64 a0_1) := (blk_cell BK118.out 1).trans rfl; have hcz32_2 : w31.cell? ⟨gb118, 2, none⟩ = some (.int .i64 a0_2) := (blk_cell BK118.out 2).trans rfl; have hcz32_3 : w31.cell? ⟨gb118, 3, none⟩ = some (.int .i64 a0_3) := (blk_cell BK118.out 3).trans rfl; have hcz32_4 : w31.cell? ⟨gb118, 4, none⟩ = some (.int .i64 a0_4) := (blk_cell BK118.out 4).trans rfl; have hfz32_0 := blk_frozen BK118.out 0; have hfz32_1 := blk_frozen BK118.out 1; have hfz32_2 := blk_frozen BK118.out 2; have hfz32_3 := blk_frozen BK118.out 3; have hfz32_4 := blk_frozen BK118.out 4) | ((with_reducible refine gate_callee (f := 58) rfl ?_); refine goesL_ (some 6) rfl rfl Tryd.func58 (by kernel_rfl) rfl #[.int .i32 a0_0] rfl (by (try simp only [List.map_toArray, List.map_cons, List.map_nil]); first | done | rfl | (simp only [List.length_drop, List.length_take]; rfl)) ?_; (with_reducible refine (tikref6_Width.calls k a0_0 t119 _ A2.out).mono ?_); rintro e w' ⟨rfl, ⟨nd, rfl⟩⟩; refine ⟨_, rfl, ?_⟩) | ((with_reducible refine gate_callee (f := 55) rfl ?_); refine goesL_ (some 9) rfl rfl Tryd.func55 (by kernel_rfl) rfl #[.agg #[.int .i64 a0_1, .int .i64 a0_2, .int .i64 a0_3]] rfl (by (try simp only [List.map_toArray, List.map_cons, List.map_nil]); first | done | rfl | (simp only [List.length_drop, List.length_take]; rfl)) ?_; (with_reducible refine (tikref6_MayAttr.calls a0_1 a0_2 a0_3 true _ A3.out).mono ?_); rintro e w33 ⟨rfl, hb⟩; refine ⟨_, rfl, ?_⟩; have n0_ := Aside0.mk (blk_below (g := gb118) (o := .cells #[.int .i32 a0_0, .int .i64 a0_1, .int .i64 a0_2, .int .i64 a0_3, .int .i64 a0_4] 32 (0, 0)) (by (with_reducible repeat (first | refine blk_drewN ?_ _ | refine blk_drew ?_ | refine blk_alloc ?_ _)); exact BK118.out) hb); have n1_ := Aside0.mk (below_step (by repeat (first | (with_reducible first | exact HB.out | apply below_alloc | apply pw_below_drewN | apply below_drew1 | refine below_set ?_ GE118.out) | exact HB.out)) hb); clear BK118; clear HB; have BK118 := n0_; have HB := n1_; clear n0_ n1_; (try clear hb); (try clear hb2); (try clear hk); (try clear hi); have hcz34_0 : w33.cell? ⟨gb118, 0, none⟩ = some (.int .i32 a0_0) := (blk_cell BK118.out 0).trans rfl; have hcz34_1 : w33.cell? ⟨gb118, 1, none⟩ = some (.int .i64 a0_1) := (blk_cell BK118.out 1).trans rfl; have hcz34_2 : w33.cell? ⟨gb118, 2, none⟩ = some (.int .i64 a0_2) := (blk_cell BK118.out 2).trans rfl; have hcz34_3 : w33.cell? ⟨gb118, 3, none⟩ = some (.int .i64 a0_3) := (blk_cell BK118.out 3).trans rfl; have hcz34_4 : w33.cell? ⟨gb118, 4, none⟩ = some (.int .i64 a0_4) := (blk_cell BK118.out 4).trans rfl; have hfz34_0 := blk_frozen BK118.out 0; have hfz34_1 := blk_frozen BK118.out 1; have hfz34_2 := blk_frozen BK118.out 2; have hfz34_3 := blk_frozen BK118.out 3; have hfz34_4 := blk_frozen BK118.out 4))
            go_ret
            exact ⟨by first | rfl | (simp [errW_none, errW_some] <;> rfl) | (simp [*, errW_none, errW_some] <;> rfl), by repeat (first | (with_reducible first | exact HB.out | apply below_alloc | apply pw_below_drewN | apply below_drew1 | refine below_set ?_ GE118.out) | exact HB.out)⟩
    · rw [if_neg c5] at H
      have c5b0 : (a0_4 == 0) = false := beq_eq_false_iff_ne.mpr c5
      have c5b1 : (a0_4 != 0) = true := bne_iff_ne.mpr c5
      by_cases c35 : a0_4 = 1
      · rw [if_pos c35] at H
        have c35b0 : (a0_4 == 1) = true := beq_iff_eq.mpr c35
        have c35b1 : (a0_4 != 1) = false := bne_eq_false_iff_eq.mpr c35
        clear c35
        by_cases c36 : t119 = 2
        · rw [if_pos c36] at H
          have c36b0 : (t119 == 2) = true := beq_iff_eq.mpr c36
          have c36b1 : (t119 != 2) = false := bne_eq_false_iff_eq.mpr c36
          clear c36
          obtain rfl := Option.some.inj H
          go_enter Tryd.func53, Tryd.ntmps53
          go_wp2_with (first | ((with_reducible refine gate_dst (N := 1) rfl ?_); refine box_event ?hg (N := 1) ?hd (cs := #[.int .i32 a0_0, .int .i64 a0_1, .int .i64 a0_2, .int .i64 a0_3, .int .i64 a0_4]) (t := 32) ?hr ?_; (case hd => rfl); (case hg => rfl); (case hr => first | (go_simp; done) | (go_simp; rfl)); intro gb118 hg w37 hbox hb; have n0_ := Aside0.mk (below_step (by repeat (first | (with_reducible first | exact HB.out | apply below_alloc | apply pw_below_drewN | apply below_drew1) | exact HB.out)) hb); have n1_ := Aside0.mk (hbox); have n2_ := Aside0.mk ((by rw [hg]; exact (below_size (by repeat (first | (with_reducible first | exact HB.out | apply below_alloc | apply pw_below_drewN | apply below_drew1) | exact HB.out))) : w.heap.size ≤ gb118)); have n3_ := Aside0.mk ((by rw [hg]; exact (below_size (by repeat (first | (with_reducible first | exact HB.out | apply below_alloc | apply pw_below_drewN | apply below_drew1) | exact HB.out))) : w.heap.size ≤ gb118)); clear HB; have HB := n0_; have BK118 := n1_; have GW118 := n2_; have GE118 := n3_; clear n0_ n1_ n2_ n3_; clear hb hbox hg; have hcz38_0 : w37.cell? ⟨gb118, 0, none⟩ = some (.int .i32 a0_0) := (blk_cell BK118.out 0).trans rfl; have hcz38_1 : w37.cell? ⟨gb118, 1, none⟩ = some (.int .i64 a0_1) := (blk_cell BK118.out 1).trans rfl; have hcz38_2 : w37.cell? ⟨gb118, 2, none⟩ = some (.int .i64 a0_2) := (blk_cell BK118.out 2).trans rfl; have hcz38_3 : w37.cell? ⟨gb118, 3, none⟩ = some (.int .i64 a0_3) := (blk_cell BK118.out 3).trans rfl; have hcz38_4 : w37.cell? ⟨gb118, 4, none⟩ = some (.int .i64 a0_4) := (blk_cell BK118.out 4).trans rfl; have hfz38_0 := blk_frozen BK118.out 0; have hfz38_1 := blk_frozen BK118.out 1; have hfz38_2 := blk_frozen BK118.out 2; have hfz38_3 := blk_frozen BK118.out 3; have hfz38_4 := blk_frozen BK118.out 4) | ((with_reducible refine gate_callee (f := 58) rfl ?_); refine goesL_ (some 6) rfl rfl Tryd.func58 (by kernel_rfl) rfl #[.int .i32 a0_0] rfl (by (try simp only [List.map_toArray, List.map_cons, List.map_nil]); first | done | rfl | (simp only [List.length_drop, List.length_take]; rfl)) ?_; (with_reducible refine (tikref6_Width.calls k a0_0 t119 _ A2.out).mono ?_); rintro e w' ⟨rfl, ⟨nd, rfl⟩⟩; refine ⟨_, rfl, ?_⟩) | ((with_reducible refine gate_callee (f := 55) rfl ?_); refine goesL_ (some 9) rfl rfl Tryd.func55 (by kernel_rfl) rfl #[.agg #[.int .i64 a0_1, .int .i64 a0_2, .int .i64 a0_3]] rfl (by (try simp only [List.map_toArray, List.map_cons, List.map_nil]); first | done | rfl | (simp only [List.length_drop, List.length_take]; rfl)) ?_; (with_reducible refine (tikref6_MayAttr.calls a0_1 a0_2 a0_3 true _ A3.out).mono ?_); rintro e w39 ⟨rfl, hb⟩; refine ⟨_, rfl, ?_⟩; have n0_ := Aside0.mk (blk_below (g := gb118) (o := .cells #[.int .i32 a0_0, .int .i64 a0_1, .int .i64 a0_2, .int .i64 a0_3, .int .i64 a0_4] 32 (0, 0)) (by (with_reducible repeat (first | refine blk_drewN ?_ _ | refine blk_drew ?_ | refine blk_alloc ?_ _)); exact BK118.out) hb); have n1_ := Aside0.mk (below_step (by repeat (first | (with_reducible first | exact HB.out | apply below_alloc | apply pw_below_drewN | apply below_drew1 | refine below_set ?_ GE118.out) | exact HB.out)) hb); clear BK118; clear HB; have BK118 := n0_; have HB := n1_; clear n0_ n1_; (try clear hb); (try clear hb2); (try clear hk); (try clear hi); have hcz40_0 : w39.cell? ⟨gb118, 0, none⟩ = some (.int .i32 a0_0) := (blk_cell BK118.out 0).trans rfl; have hcz40_1 : w39.cell? ⟨gb118, 1, none⟩ = some (.int .i64 a0_1) := (blk_cell BK118.out 1).trans rfl; have hcz40_2 : w39.cell? ⟨gb118, 2, none⟩ = some (.int .i64 a0_2) := (blk_cell BK118.out 2).trans rfl; have hcz40_3 : w39.cell? ⟨gb118, 3, none⟩ = some (.int .i64 a0_3) := (blk_cell BK118.out 3).trans rfl; have hcz40_4 : w39.cell? ⟨gb118, 4, none⟩ = some (.int .i64 a0_4) := (blk_cell BK118.out 4).trans rfl; have hfz40_0 := blk_frozen BK118.out 0; have hfz40_1 := blk_frozen BK118.out 1; have hfz40_2 := blk_frozen BK118.out 2; have hfz40_3 := blk_frozen BK118.out 3; have hfz40_4 := blk_frozen BK118.out 4))
          go_ret
          exact ⟨by first | rfl | (simp [errW_none, errW_some] <;> rfl) | (simp [*, errW_none, errW_some] <;> rfl), by repeat (first | (with_reducible first | exact HB.out | apply below_alloc | apply pw_below_drewN | apply below_drew1 | refine below_set ?_ GE118.out) | exact HB.out)⟩
        · rw [if_neg c36] at H
          have c36b0 : (t119 == 2) = false := beq_eq_false_iff_ne.mpr c36
          have c36b1 : (t119 != 2) = true := bne_iff_ne.mpr c36
          by_cases c41 : a0_4 = 2
          · rw [if_pos c41] at H
            have c41b0 : (a0_4 == 2) = true := beq_iff_eq.mpr c41
            have c41b1 : (a0_4 != 2) = false := bne_eq_false_iff_eq.mpr c41
            clear c41
            obtain rfl := Option.some.inj H
            go_enter Tryd.func53, Tryd.ntmps53
            go_wp2_with (first | ((with_reducible refine gate_dst (N := 1) rfl ?_); refine box_event ?hg (N := 1) ?hd (cs := #[.int .i32 a0_0, .int .i64 a0_1, .int .i64 a0_2, .int .i64 a0_3, .int .i64 a0_4]) (t := 32) ?hr ?_; (case hd => rfl); (case hg => rfl); (case hr => first | (go_simp; done) | (go_simp; rfl)); intro gb118 hg w42 hbox hb; have n0_ := Aside0.mk (below_step (by repeat (first | (with_reducible first | exact HB.out | apply below_alloc | apply pw_below_drewN | apply below_drew1) | exact HB.out)) hb); have n1_ := Aside0.mk (hbox); have n2_ := Aside0.mk ((by rw [hg]; exact (below_size (by repeat (first | (with_reducible first | exact HB.out | apply below_alloc | apply pw_below_drewN | apply below_drew1) | exact HB.out))) : w.heap.size ≤ gb118)); have n3_ := Aside0.mk ((by rw [hg]; exact (below_size (by repeat (first | (with_reducible first | exact HB.out | apply below_alloc | apply pw_below_drewN | apply below_drew1) | exact HB.out))) : w.heap.size ≤ gb118)); clear HB; have HB := n0_; have BK118 := n1_; have GW118 := n2_; have GE118 := n3_; clear n0_ n1_ n2_ n3_; clear hb hbox hg; have hcz43_0 : w42.cell? ⟨gb118, 0, none⟩ = some (.int .i32 a0_0) := (blk_cell BK118.out 0).trans rfl; have hcz43_1 : w42.cell? ⟨gb118, 1, none⟩ = some (.int .i64 a0_1) := (blk_cell BK118.out 1).trans rfl; have hcz43_2 : w42.cell? ⟨gb118, 2, none⟩ = some (.int .i64 a0_2) := (blk_cell BK118.out 2).trans rfl; have hcz43_3 : w42.cell? ⟨gb118, 3, none⟩ = some (.int .i64 a0_3) := (blk_cell BK118.out 3).trans rfl; have hcz43_4 : w42.cell? ⟨gb118, 4, none⟩ = some (.int .i64 a0_4) := (blk_cell BK118.out 4).trans rfl; have hfz43_0 := blk_frozen BK118.out 0; have hfz43_1 := blk_frozen BK118.out 1; have hfz43_2 := blk_frozen BK118.out 2; have hfz43_3 := blk_frozen BK118.out 3; have hfz43_4 := blk_frozen BK118.out 4) | ((with_reducible refine gate_callee (f := 58) rfl ?_); refine goesL_ (some 6) rfl rfl Tryd.func58 (by kernel_rfl) rfl #[.int .i32 a0_0] rfl (by (try simp only [List.map_toArray, List.map_cons, List.map_nil]); first | done | rfl | (simp only [List.length_drop, List.length_take]; rfl)) ?_; (with_reducible refine (tikref6_Width.calls k a0_0 t119 _ A2.out).mono ?_); rintro e w' ⟨rfl, ⟨nd, rfl⟩⟩; refine ⟨_, rfl, ?_⟩) | ((with_reducible refine gate_callee (f := 55) rfl ?_); refine goesL_ (some 9) rfl rfl Tryd.func55 (by kernel_rfl) rfl #[.agg #[.int .i64 a0_1, .int .i64 a0_2, .int .i64 a0_3]] rfl (by (try simp only [List.map_toArray, List.map_cons, List.map_nil]); first | done | rfl | (simp only [List.length_drop, List.length_take]; rfl)) ?_; (with_reducible refine (tikref6_MayAttr.calls a0_1 a0_2 a0_3 true _ A3.out).mono ?_); rintro e w44 ⟨rfl, hb⟩; refine ⟨_, rfl, ?_⟩; have n0_ := Aside0.mk (blk_below (g := gb118) (o := .cells #[.int .i32 a0_0, .int .i64 a0_1, .int .i64 a0_2, .int .i64 a0_3, .int .i64 a0_4] 32 (0, 0)) (by (with_reducible repeat (first | refine blk_drewN ?_ _ | refine blk_drew ?_ | refine blk_alloc ?_ _)); exact BK118.out) hb); have n1_ := Aside0.mk (below_step (by repeat (first | (with_reducible first | exact HB.out | apply below_alloc | apply pw_below_drewN | apply below_drew1 | refine below_set ?_ GE118.out) | exact HB.out)) hb); clear BK118; clear HB; have BK118 := n0_; have HB := n1_; clear n0_ n1_; (try clear hb); (try clear hb2); (try clear hk); (try clear hi); have hcz45_0 : w44.cell? ⟨gb118, 0, none⟩ = some (.int .i32 a0_0) := (blk_cell BK118.out 0).trans rfl; have hcz45_1 : w44.cell? ⟨gb118, 1, none⟩ = some (.int .i64 a0_1) := (blk_cell BK118.out 1).trans rfl; have hcz45_2 : w44.cell? ⟨gb118, 2, none⟩ = some (.int .i64 a0_2) := (blk_cell BK118.out 2).trans rfl; have hcz45_3 : w44.cell? ⟨gb118, 3, none⟩ = some (.int .i64 a0_3) := (blk_cell BK118.out 3).trans rfl; have hcz45_4 : w44.cell? ⟨gb118, 4, none⟩ = some (.int .i64 a0_4) := (blk_cell BK118.out 4).trans rfl; have hfz45_0 := blk_frozen BK118.out 0; have hfz45_1 := blk_frozen BK118.out 1; have hfz45_2 := blk_frozen BK118.out 2; have hfz45_3 := blk_frozen BK118.out 3; have hfz45_4 := blk_frozen BK118.out 4))
            go_ret
            exact ⟨by first | rfl | (simp [errW_none, errW_some] <;> rfl) | (simp [*, errW_none, errW_some] <;> rfl), by repeat (first | (with_reducible first | exact HB.out | apply below_alloc | apply pw_below_drewN | apply below_drew1 | refine below_set ?_ GE118.out) | exact HB.out)⟩
          · rw [if_neg c41] at H
            have c41b0 : (a0_4 == 2) = false := beq_eq_false_iff_ne.mpr c41
            have c41b1 : (a0_4 != 2) = true := bne_iff_ne.mpr c41
            obtain rfl := Option.some.inj H
            go_enter Tryd.func53, Tryd.ntmps53
            go_wp2_with (first | ((with_reducible refine gate_dst (N := 1) rfl ?_); refine box_event ?hg (N := 1) ?hd (cs := #[.int .i32 a0_0, .int .i64 a0_1, .int .i64 a0_2, .int .i64 a0_3, .int .i64 a0_4]) (t := 32) ?hr ?_; (case hd => rfl); (case hg => rfl); (case hr => first | (go_simp; done) | (go_simp; rfl)); intro gb118 hg w46 hbox hb; have n0_ := Aside0.mk (below_step (by repeat (first | (with_reducible first | exact HB.out | apply below_alloc | apply pw_below_drewN | apply below_drew1) | exact HB.out)) hb); have n1_ := Aside0.mk (hbox); have n2_ := Aside0.mk ((by rw [hg]; exact (below_size (by repeat (first | (with_reducible first | exact HB.out | apply below_alloc | apply pw_below_drewN | apply below_drew1) | exact HB.out))) : w.heap.size ≤ gb118)); have n3_ := Aside0.mk ((by rw [hg]; exact (below_size (by repeat (first | (with_reducible first | exact HB.out | apply below_alloc | apply pw_below_drewN | apply below_drew1) | exact HB.out))) : w.heap.size ≤ gb118)); clear HB; have HB := n0_; have BK118 := n1_; have GW118 := n2_; have GE118 := n3_; clear n0_ n1_ n2_ n3_; clear hb hbox hg; have hcz47_0 : w46.cell? ⟨gb118, 0, none⟩ = some (.int .i32 a0_0) := (blk_cell BK118.out 0).trans rfl; have hcz47_1 : w46.cell? ⟨gb118, 1, none⟩ = some (.int .i64 a0_1) := (blk_cell BK118.out 1).trans rfl; have hcz47_2 : w46.cell? ⟨gb118, 2, none⟩ = some (.int .i64 a0_2) := (blk_cell BK118.out 2).trans rfl; have hcz47_3 : w46.cell? ⟨gb118, 3, none⟩ = some (.int .i64 a0_3) := (blk_cell BK118.out 3).trans rfl; have hcz47_4 : w46.cell? ⟨gb118, 4, none⟩ = some (.int .i64 a0_4) := (blk_cell BK118.out 4).trans rfl; have hfz47_0 := blk_frozen BK118.out 0; have hfz47_1 := blk_frozen BK118.out 1; have hfz47_2 := blk_frozen BK118.out 2; have hfz47_3 := blk_frozen BK118.out 3; have hfz47_4 := blk_frozen BK118.out 4) | ((with_reducible refine gate_callee (f := 58) rfl ?_); refine goesL_ (some 6) rfl rfl Tryd.func58 (by kernel_rfl) rfl #[.int .i32 a0_0] rfl (by (try simp only [List.map_toArray, List.map_cons, List.map_nil]); first | done | rfl | (simp only [List.length_drop, List.length_take]; rfl)) ?_; (with_reducible refine (tikref6_Width.calls k a0_0 t119 _ A2.out).mono ?_); rintro e w' ⟨rfl, ⟨nd, rfl⟩⟩; refine ⟨_, rfl, ?_⟩) | ((with_reducible refine gate_callee (f := 55) rfl ?_); refine goesL_ (some 9) rfl rfl Tryd.func55 (by kernel_rfl) rfl #[.agg #[.int .i64 a0_1, .int .i64 a0_2, .int .i64 a0_3]] rfl (by (try simp only [List.map_toArray, List.map_cons, List.map_nil]); first | done | rfl | (simp only [List.length_drop, List.length_take]; rfl)) ?_; (with_reducible refine (tikref6_MayAttr.calls a0_1 a0_2 a0_3 true _ A3.out).mono ?_); rintro e w48 ⟨rfl, hb⟩; refine ⟨_, rfl, ?_⟩; have n0_ := Aside0.mk (blk_below (g := gb118) (o := .cells #[.int .i32 a0_0, .int .i64 a0_1, .int .i64 a0_2, .int .i64 a0_3, .int .i64 a0_4] 32 (0, 0)) (by (with_reducible repeat (first | refine blk_drewN ?_ _ | refine blk_drew ?_ | refine blk_alloc ?_ _)); exact BK118.out) hb); have n1_ := Aside0.mk (below_step (by repeat (first | (with_reducible first | exact HB.out | apply below_alloc | apply pw_below_drewN | apply below_drew1 | refine below_set ?_ GE118.out) | exact HB.out)) hb); clear BK118; clear HB; have BK118 := n0_; have HB := n1_; clear n0_ n1_; (try clear hb); (try clear hb2); (try clear hk); (try clear hi); have hcz49_0 : w48.cell? ⟨gb118, 0, none⟩ = some (.int .i32 a0_0) := (blk_cell BK118.out 0).trans rfl; have hcz49_1 : w48.cell? ⟨gb118, 1, none⟩ = some (.int .i64 a0_1) := (blk_cell BK118.out 1).trans rfl; have hcz49_2 : w48.cell? ⟨gb118, 2, none⟩ = some (.int .i64 a0_2) := (blk_cell BK118.out 2).trans rfl; have hcz49_3 : w48.cell? ⟨gb118, 3, none⟩ = some (.int .i64 a0_3) := (blk_cell BK118.out 3).trans rfl; have hcz49_4 : w48.cell? ⟨gb118, 4, none⟩ = some (.int .i64 a0_4) := (blk_cell BK118.out 4).trans rfl; have hfz49_0 := blk_frozen BK118.out 0; have hfz49_1 := blk_frozen BK118.out 1; have hfz49_2 := blk_frozen BK118.out 2; have hfz49_3 := blk_frozen BK118.out 3; have hfz49_4 := blk_frozen BK118.out 4))
            go_ret
            exact ⟨by first | rfl | (simp [errW_none, errW_some] <;> rfl) | (simp [*, errW_none, errW_some] <;> rfl), by repeat (first | (with_reducible first | exact HB.out | apply below_alloc | apply pw_below_drewN | apply below_drew1 | refine below_set ?_ GE118.out) | exact HB.out)⟩
      · rw [if_neg c35] at H
        have c35b0 : (a0_4 == 1) = false := beq_eq_false_iff_ne.mpr c35
        have c35b1 : (a0_4 != 1) = true := bne_iff_ne.mpr c35
        by_cases c50 : a0_4 = 2
        · rw [if_pos c50] at H
          have c50b0 : (a0_4 == 2) = true := beq_iff_eq.mpr c50
          have c50b1 : (a0_4 != 2) = false := bne_eq_false_iff_eq.mpr c50
          clear c50
          obtain rfl := Option.some.inj H
          go_enter Tryd.func53, Tryd.ntmps53
          go_wp2_with (first | ((with_reducible refine gate_dst (N := 1) rfl ?_); refine box_event ?hg (N := 1) ?hd (cs := #[.int .i32 a0_0, .int .i64 a0_1, .int .i64 a0_2, .int .i64 a0_3, .int .i64 a0_4]) (t := 32) ?hr ?_; (case hd => rfl); (case hg => rfl); (case hr => first | (go_simp; done) | (go_simp; rfl)); intro gb118 hg w51 hbox hb; have n0_ := Aside0.mk (below_step (by repeat (first | (with_reducible first | exact HB.out | apply below_alloc | apply pw_below_drewN | apply below_drew1) | exact HB.out)) hb); have n1_ := Aside0.mk (hbox); have n2_ := Aside0.mk ((by rw [hg]; exact (below_size (by repeat (first | (with_reducible first | exact HB.out | apply below_alloc | apply pw_below_drewN | apply below_drew1) | exact HB.out))) : w.heap.size ≤ gb118)); have n3_ := Aside0.mk ((by rw [hg]; exact (below_size (by repeat (first | (with_reducible first | exact HB.out | apply below_alloc | apply pw_below_drewN | apply below_drew1) | exact HB.out))) : w.heap.size ≤ gb118)); clear HB; have HB := n0_; have BK118 := n1_; have GW118 := n2_; have GE118 := n3_; clear n0_ n1_ n2_ n3_; clear hb hbox hg; have hcz52_0 : w51.cell? ⟨gb118, 0, none⟩ = some (.int .i32 a0_0) := (blk_cell BK118.out 0).trans rfl; have hcz52_1 : w51.cell? ⟨gb118, 1, none⟩ = some (.int .i64 a0_1) := (blk_cell BK118.out 1).trans rfl; have hcz52_2 : w51.cell? ⟨gb118, 2, none⟩ = some (.int .i64 a0_2) := (blk_cell BK118.out 2).trans rfl; have hcz52_3 : w51.cell? ⟨gb118, 3, none⟩ = some (.int .i64 a0_3) := (blk_cell BK118.out 3).trans rfl; have hcz52_4 : w51.cell? ⟨gb118, 4, none⟩ = some (.int .i64 a0_4) := (blk_cell BK118.out 4).trans rfl; have hfz52_0 := blk_frozen BK118.out 0; have hfz52_1 := blk_frozen BK118.out 1; have hfz52_2 := blk_frozen BK118.out 2; have hfz52_3 := blk_frozen BK118.out 3; have hfz52_4 := blk_frozen BK118.out 4) | ((with_reducible refine gate_callee (f := 58) rfl ?_); refine goesL_ (some 6) rfl rfl Tryd.func58 (by kernel_rfl) rfl #[.int .i32 a0_0] rfl (by (try simp only [List.map_toArray, List.map_cons, List.map_nil]); first | done | rfl | (simp only [List.length_drop, List.length_take]; rfl)) ?_; (with_reducible refine (tikref6_Width.calls k a0_0 t119 _ A2.out).mono ?_); rintro e w' ⟨rfl, ⟨nd, rfl⟩⟩; refine ⟨_, rfl, ?_⟩) | ((with_reducible refine gate_callee (f := 55) rfl ?_); refine goesL_ (some 9) rfl rfl Tryd.func55 (by kernel_rfl) rfl #[.agg #[.int .i64 a0_1, .int .i64 a0_2, .int .i64 a0_3]] rfl (by (try simp only [List.map_toArray, List.map_cons, List.map_nil]); first | done | rfl | (simp only [List.length_drop, List.length_take]; rfl)) ?_; (with_reducible refine (tikref6_MayAttr.calls a0_1 a0_2 a0_3 true _ A3.out).mono ?_); rintro e w53 ⟨rfl, hb⟩; refine ⟨_, rfl, ?_⟩; have n0_ := Aside0.mk (blk_below (g := gb118) (o := .cells #[.int .i32 a0_0, .int .i64 a0_1, .int .i64 a0_2, .int .i64 a0_3, .int .i64 a0_4] 32 (0, 0)) (by (with_reducible repeat (first | refine blk_drewN ?_ _ | refine blk_drew ?_ | refine blk_alloc ?_ _)); exact BK118.out) hb); have n1_ := Aside0.mk (below_step (by repeat (first | (with_reducible first | exact HB.out | apply below_alloc | apply pw_below_drewN | apply below_drew1 | refine below_set ?_ GE118.out) | exact HB.out)) hb); clear BK118; clear HB; have BK118 := n0_; have HB := n1_; clear n0_ n1_; (try clear hb); (try clear hb2); (try clear hk); (try clear hi); have hcz54_0 : w53.cell? ⟨gb118, 0, none⟩ = some (.int .i32 a0_0) := (blk_cell BK118.out 0).trans rfl; have hcz54_1 : w53.cell? ⟨gb118, 1, none⟩ = some (.int .i64 a0_1) := (blk_cell BK118.out 1).trans rfl; have hcz54_2 : w53.cell? ⟨gb118, 2, none⟩ = some (.int .i64 a0_2) := (blk_cell BK118.out 2).trans rfl; have hcz54_3 : w53.cell? ⟨gb118, 3, none⟩ = some (.int .i64 a0_3) := (blk_cell BK118.out 3).trans rfl; have hcz54_4 : w53.cell? ⟨gb118, 4, none⟩ = some (.int .i64 a0_4) := (blk_cell BK118.out 4).trans rfl; have hfz54_0 := blk_frozen BK118.out 0; have hfz54_1 := blk_frozen BK118.out 1; have hfz54_2 := blk_frozen BK118.out 2; have hfz54_3 := blk_frozen BK118.out 3; have hfz54_4 := blk_frozen BK118.out 4))
          go_ret
          exact ⟨by first | rfl | (simp [errW_none, errW_some] <;> rfl) | (simp [*, errW_none, errW_some] <;> rfl), by repeat (first | (with_reducible first | exact HB.out | apply below_alloc | apply pw_below_drewN | apply below_drew1 | refine below_set ?_ GE118.out) | exact HB.out)⟩
        · rw [if_neg c50] at H
          have c50b0 : (a0_4 == 2) = false := beq_eq_false_iff_ne.mpr c50
          have c50b1 : (a0_4 != 2) = true := bne_iff_ne.mpr c50
          obtain rfl := Option.some.inj H
          go_enter Tryd.func53, Tryd.ntmps53
          go_wp2_with (first | ((with_reducible refine gate_dst (N := 1) rfl ?_); refine box_event ?hg (N := 1) ?hd (cs := #[.int .i32 a0_0, .int .i64 a0_1, .int .i64 a0_2, .int .i64 a0_3, .int .i64 a0_4]) (t := 32) ?hr ?_; (case hd => rfl); (case hg => rfl); (case hr => first | (go_simp; done) | (go_simp; rfl)); intro gb118 hg w55 hbox hb; have n0_ := Aside0.mk (below_step (by repeat (first | (with_reducible first | exact HB.out | apply below_alloc | apply pw_below_drewN | apply below_drew1) | exact HB.out)) hb); have n1_ := Aside0.mk (hbox); have n2_ := Aside0.mk ((by rw [hg]; exact (below_size (by repeat (first | (with_reducible first | exact HB.out | apply below_alloc | apply pw_below_drewN | apply below_drew1) | exact HB.out))) : w.heap.size ≤ gb118)); have n3_ := Aside0.mk ((by rw [hg]; exact (below_size (by repeat (first | (with_reducible first | exact HB.out | apply below_alloc | apply pw_below_drewN | apply below_drew1) | exact HB.out))) : w.heap.size ≤ gb118)); clear HB; have HB := n0_; have BK118 := n1_; have GW118 := n2_; have GE118 := n3_; clear n0_ n1_ n2_ n3_; clear hb hbox hg; have hcz56_0 : w55.cell? ⟨gb118, 0, none⟩ = some (.int .i32 a0_0) := (blk_cell BK118.out 0).trans rfl; have hcz56_1 : w55.cell? ⟨gb118, 1, none⟩ = some (.int .i64 a0_1) := (blk_cell BK118.out 1).trans rfl; have hcz56_2 : w55.cell? ⟨gb118, 2, none⟩ = some (.int .i64 a0_2) := (blk_cell BK118.out 2).trans rfl; have hcz56_3 : w55.cell? ⟨gb118, 3, none⟩ = some (.int .i64 a0_3) := (blk_cell BK118.out 3).trans rfl; have hcz56_4 : w55.cell? ⟨gb118, 4, none⟩ = some (.int .i64 a0_4) := (blk_cell BK118.out 4).trans rfl; have hfz56_0 := blk_frozen BK118.out 0; have hfz56_1 := blk_frozen BK118.out 1; have hfz56_2 := blk_frozen BK118.out 2; have hfz56_3 := blk_frozen BK118.out 3; have hfz56_4 := blk_frozen BK118.out 4) | ((with_reducible refine gate_callee (f := 58) rfl ?_); refine goesL_ (some 6) rfl rfl Tryd.func58 (by kernel_rfl) rfl #[.int .i32 a0_0] rfl (by (try simp only [List.map_toArray, List.map_cons, List.map_nil]); first | done | rfl | (simp only [List.length_drop, List.length_take]; rfl)) ?_; (with_reducible refine (tikref6_Width.calls k a0_0 t119 _ A2.out).mono ?_); rintro e w' ⟨rfl, ⟨nd, rfl⟩⟩; refine ⟨_, rfl, ?_⟩) | ((with_reducible refine gate_callee (f := 55) rfl ?_); refine goesL_ (some 9) rfl rfl Tryd.func55 (by kernel_rfl) rfl #[.agg #[.int .i64 a0_1, .int .i64 a0_2, .int .i64 a0_3]] rfl (by (try simp only [List.map_toArray, List.map_cons, List.map_nil]); first | done | rfl | (simp only [List.length_drop, List.length_take]; rfl)) ?_; (with_reducible refine (tikref6_MayAttr.calls a0_1 a0_2 a0_3 true _ A3.out).mono ?_); rintro e w57 ⟨rfl, hb⟩; refine ⟨_, rfl, ?_⟩; have n0_ := Aside0.mk (blk_below (g := gb118) (o := .cells #[.int .i32 a0_0, .int .i64 a0_1, .int .i64 a0_2, .int .i64 a0_3, .int .i64 a0_4] 32 (0, 0)) (by (with_reducible repeat (first | refine blk_drewN ?_ _ | refine blk_drew ?_ | refine blk_alloc ?_ _)); exact BK118.out) hb); have n1_ := Aside0.mk (below_step (by repeat (first | (with_reducible first | exact HB.out | apply below_alloc | apply pw_below_drewN | apply below_drew1 | refine below_set ?_ GE118.out) | exact HB.out)) hb); clear BK118; clear HB; have BK118 := n0_; have HB := n1_; clear n0_ n1_; (try clear hb); (try clear hb2); (try clear hk); (try clear hi); have hcz58_0 : w57.cell? ⟨gb118, 0, none⟩ = some (.int .i32 a0_0) := (blk_cell BK118.out 0).trans rfl; have hcz58_1 : w57.cell? ⟨gb118, 1, none⟩ = some (.int .i64 a0_1) := (blk_cell BK118.out 1).trans rfl; have hcz58_2 : w57.cell? ⟨gb118, 2, none⟩ = some (.int .i64 a0_2) := (blk_cell BK118.out 2).trans rfl; have hcz58_3 : w57.cell? ⟨gb118, 3, none⟩ = some (.int .i64 a0_3) := (blk_cell BK118.out 3).trans rfl; have hcz58_4 : w57.cell? ⟨gb118, 4, none⟩ = some (.int .i64 a0_4) := (blk_cell BK118.out 4).trans rfl; have hfz58_0 := blk_frozen BK118.out 0; have hfz58_1 := blk_frozen BK118.out 1; have hfz58_2 := blk_frozen BK118.out 2; have hfz58_3 := blk_frozen BK118.out 3; have hfz58_4 := blk_frozen BK118.out 4))
          go_ret
          exact ⟨by first | rfl | (simp [errW_none, errW_some] <;> rfl) | (simp [*, errW_none, errW_some] <;> rfl), by repeat (first | (with_reducible first | exact HB.out | apply below_alloc | apply pw_below_drewN | apply below_drew1 | refine below_set ?_ GE118.out) | exact HB.out)⟩
  · replace c4 := Bool.eq_false_iff.mpr c4
    subst c4
    have H1 : (some false) = some r := by rw [if_neg (show ¬ (false = true) by decide)] at H; exact H
    clear H
    have H := H1
    clear H1
    obtain rfl := Option.some.inj H
    go_enter Tryd.func53, Tryd.ntmps53
    go_wp2_with (first | ((with_reducible refine gate_dst (N := 1) rfl ?_); refine box_event ?hg (N := 1) ?hd (cs := #[.int .i32 a0_0, .int .i64 a0_1, .int .i64 a0_2, .int .i64 a0_3, .int .i64 a0_4]) (t := 32) ?hr ?_; (case hd => rfl); (case hg => rfl); (case hr => first | (go_simp; done) | (go_simp; rfl)); intro gb118 hg w59 hbox hb; have n0_ := Aside0.mk (below_step (by repeat (first | (with_reducible first | exact HB.out | apply below_alloc | apply pw_below_drewN | apply below_drew1) | exact HB.out)) hb); have n1_ := Aside0.mk (hbox); have n2_ := Aside0.mk ((by rw [hg]; exact (below_size (by repeat (first | (with_reducible first | exact HB.out | apply below_alloc | apply pw_below_drewN | apply below_drew1) | exact HB.out))) : w.heap.size ≤ gb118)); have n3_ := Aside0.mk ((by rw [hg]; exact (below_size (by repeat (first | (with_reducible first | exact HB.out | apply below_alloc | apply pw_below_drewN | apply below_drew1) | exact HB.out))) : w.heap.size ≤ gb118)); clear HB; have HB := n0_; have BK118 := n1_; have GW118 := n2_; have GE118 := n3_; clear n0_ n1_ n2_ n3_; clear hb hbox hg; have hcz60_0 : w59.cell? ⟨gb118, 0, none⟩ = some (.int .i32 a0_0) := (blk_cell BK118.out 0).trans rfl; have hcz60_1 : w59.cell? ⟨gb118, 1, none⟩ = some (.int .i64 a0_1) := (blk_cell BK118.out 1).trans rfl; have hcz60_2 : w59.cell? ⟨gb118, 2, none⟩ = some (.int .i64 a0_2) := (blk_cell BK118.out 2).trans rfl; have hcz60_3 : w59.cell? ⟨gb118, 3, none⟩ = some (.int .i64 a0_3) := (blk_cell BK118.out 3).trans rfl; have hcz60_4 : w59.cell? ⟨gb118, 4, none⟩ = some (.int .i64 a0_4) := (blk_cell BK118.out 4).trans rfl; have hfz60_0 := blk_frozen BK118.out 0; have hfz60_1 := blk_frozen BK118.out 1; have hfz60_2 := blk_frozen BK118.out 2; have hfz60_3 := blk_frozen BK118.out 3; have hfz60_4 := blk_frozen BK118.out 4) | ((with_reducible refine gate_callee (f := 58) rfl ?_); refine goesL_ (some 6) rfl rfl Tryd.func58 (by kernel_rfl) rfl #[.int .i32 a0_0] rfl (by (try simp only [List.map_toArray, List.map_cons, List.map_nil]); first | done | rfl | (simp only [List.length_drop, List.length_take]; rfl)) ?_; (with_reducible refine (tikref6_Width.calls k a0_0 t119 _ A2.out).mono ?_); rintro e w' ⟨rfl, ⟨nd, rfl⟩⟩; refine ⟨_, rfl, ?_⟩) | ((with_reducible refine gate_callee (f := 55) rfl ?_); refine goesL_ (some 9) rfl rfl Tryd.func55 (by kernel_rfl) rfl #[.agg #[.int .i64 a0_1, .int .i64 a0_2, .int .i64 a0_3]] rfl (by (try simp only [List.map_toArray, List.map_cons, List.map_nil]); first | done | rfl | (simp only [List.length_drop, List.length_take]; rfl)) ?_; (with_reducible refine (tikref6_MayAttr.calls a0_1 a0_2 a0_3 false _ A3.out).mono ?_); rintro e w61 ⟨rfl, hb⟩; refine ⟨_, rfl, ?_⟩; have n0_ := Aside0.mk (blk_below (g := gb118) (o := .cells #[.int .i32 a0_0, .int .i64 a0_1, .int .i64 a0_2, .int .i64 a0_3, .int .i64 a0_4] 32 (0, 0)) (by (with_reducible repeat (first | refine blk_drewN ?_ _ | refine blk_drew ?_ | refine blk_alloc ?_ _)); exact BK118.out) hb); have n1_ := Aside0.mk (below_step (by repeat (first | (with_reducible first | exact HB.out | apply below_alloc | apply pw_below_drewN | apply below_drew1 | refine below_set ?_ GE118.out) | exact HB.out)) hb); clear BK118; clear HB; have BK118 := n0_; have HB := n1_; clear n0_ n1_; (try clear hb); (try clear hb2); (try clear hk); (try clear hi)))
    go_ret
    exact ⟨by first | rfl | (simp [errW_none, errW_some] <;> rfl) | (simp [*, errW_none, errW_some] <;> rfl), by repeat (first | (with_reducible first | exact HB.out | apply below_alloc | apply pw_below_drewN | apply below_drew1 | refine below_set ?_ GE118.out) | exact HB.out)⟩
def tikref6_Blank.f (a0_0 : Int) (a0_1 : Int) (a0_2 : Int) : Option (Int × Int × Int × Int × Int) := some (32, 0, 0, a0_2, 0)
set_option maxHeartbeats 8000000 in
set_option maxRecDepth 100000 in
theorem tikref6_Blank.calls (a0_0 : Int) (a0_1 : Int) (a0_2 : Int) (r1 : Int) (r2 : Int) (r3 : Int) (r4 : Int) (r5 : Int) (w : World) (h : tikref6_Blank.f a0_0 a0_1 a0_2 = some (r1, r2, r3, r4, r5)) :
    Calls Tryd.prog 43 #[.agg #[.int .i64 a0_0, .int .i64 a0_1, .int .i64 a0_2]] w fun e w' => e = .returned (.agg #[.int .i32 r1, .int .i64 r2, .int .i64 r3, .int .i64 r4, .int .i64 r5]) ∧ Below w.heap.size w w' := by
  have hu23 := Tryd.underlying23
  have hu32 := Tryd.underlying32
  have HB := Aside0.mk (Below.refl w.heap.size w)
  have H : (some (32, 0, 0, a0_2, 0)) = some (r1, r2, r3, r4, r5) := h
  clear h
  simp only [Option.some.injEq, Prod.mk.injEq] at H
  obtain ⟨rfl, rfl, rfl, rfl, rfl⟩ := H
  go_enter Tryd.func43, Tryd.ntmps43
  go_wp2_with (first | ((with_reducible refine gate_dst (N := 1) rfl ?_); refine box_event ?hg (N := 1) ?hd (cs := #[.int .i64 a0_0, .int .i64 a0_1, .int .i64 a0_2]) (t := 23) ?hr ?_; (case hd => rfl); (case hg => rfl); (case hr => first | (go_simp; done) | (go_simp; rfl)); intro gb121 hg w2 hbox hb; have n0_ := Aside0.mk (below_step (by repeat (first | (with_reducible first | exact HB.out | apply below_alloc | apply pw_below_drewN | apply below_drew1) | exact HB.out)) hb); have n1_ := Aside0.mk (hbox); have n2_ := Aside0.mk ((by rw [hg]; exact (below_size (by repeat (first | (with_reducible first | exact HB.out | apply below_alloc | apply pw_below_drewN | apply below_drew1) | exact HB.out))) : w.heap.size ≤ gb121)); have n3_ := Aside0.mk ((by rw [hg]; exact (below_size (by repeat (first | (with_reducible first | exact HB.out | apply below_alloc | apply pw_below_drewN | apply below_drew1) | exact HB.out))) : w.heap.size ≤ gb121)); clear HB; have HB := n0_; have BK121 := n1_; have GW121 := n2_; have GE121 := n3_; clear n0_ n1_ n2_ n3_; clear hb hbox hg) | ((with_reducible refine gate_dst (N := 2) rfl ?_); refine box_event ?hg (N := 2) ?hd (cs := #[.int .i32 0, .int .i64 0, .int .i64 0, .int .i64 0, .int .i64 0]) (t := 32) ?hr ?_; (case hd => rfl); (case hg => rfl); (case hr => first | (go_simp; done) | (go_simp; rfl)); intro gb122 hg w3 hbox hb; have n0_ := Aside0.mk (blk_below (g := gb121) (o := .cells #[.int .i64 a0_0, .int .i64 a0_1, .int .i64 a0_2] 23 (0, 0)) (by (with_reducible repeat (first | refine blk_drewN ?_ _ | refine blk_drew ?_ | refine blk_alloc ?_ _)); exact BK121.out) hb); have n1_ := Aside0.mk (below_step (by repeat (first | (with_reducible first | exact HB.out | apply below_alloc | apply pw_below_drewN | apply below_drew1 | refine below_set ?_ GE121.out) | exact HB.out)) hb); have n2_ := Aside0.mk (hbox); have n3_ := Aside0.mk ((by rw [hg]; exact (below_size (by repeat (first | (with_reducible first | exact HB.out | apply below_alloc | apply pw_below_drewN | apply below_drew1 | refine below_set ?_ GE121.out) | exact HB.out))) : w.heap.size ≤ gb122)); have n4_ := Aside0.mk ((by rw [hg]; exact (below_size (by repeat (first | (with_reducible first | exact HB.out | apply below_alloc | apply pw_below_drewN | apply below_drew1 | refine below_set ?_ GE121.out) | exact HB.out))) : w.heap.size ≤ gb122)); have n5_ := Aside0.mk ((by rw [hg]; exact Nat.ne_of_lt (blk_lt (g := gb121) (o := .cells #[.int .i64 a0_0, .int .i64 a0_1, .int .i64 a0_2] 23 (0, 0)) (by (with_reducible repeat (first | refine blk_drewN ?_ _ | refine blk_drew ?_ | refine blk_alloc ?_ _)); exact BK121.out)) : gb121 ≠ gb122)); have n6_ := Aside0.mk ((by rw [hg]; exact Nat.ne_of_gt (blk_lt (g := gb121) (o := .cells #[.int .i64 a0_0, .int .i64 a0_1, .int .i64 a0_2] 23 (0, 0)) (by (with_reducible repeat (first | refine blk_drewN ?_ _ | refine blk_drew ?_ | refine blk_alloc ?_ _)); exact BK121.out)) : gb122 ≠ gb121)); clear BK121; clear HB; have BK121 := n0_; have HB := n1_; have BK122 := n2_; have GW122 := n3_; have GE122 := n4_; have NB121_122 := n5_; have NB122_121 := n6_; clear n0_ n1_ n2_ n3_ n4_ n5_ n6_; clear hb hbox hg; have hnb4 := NB121_122.out; have hnc4 := NB122_121.out; have hcz5_0 : w3.cell? ⟨gb121, 0, none⟩ = some (.int .i64 a0_0) := (blk_cell BK121.out 0).trans rfl; have hcz5_1 : w3.cell? ⟨gb121, 1, none⟩ = some (.int .i64 a0_1) := (blk_cell BK121.out 1).trans rfl; have hcz5_2 : w3.cell? ⟨gb121, 2, none⟩ = some (.int .i64 a0_2) := (blk_cell BK121.out 2).trans rfl; have hfz5_0 := blk_frozen BK121.out 0; have hfz5_1 := blk_frozen BK121.out 1; have hfz5_2 := blk_frozen BK121.out 2; have hcz6_0 : w3.cell? ⟨gb122, 0, none⟩ = some (.int .i32 0) := (blk_cell BK122.out 0).trans rfl; have hcz6_1 : w3.cell? ⟨gb122, 1, none⟩ = some (.int .i64 0) := (blk_cell BK122.out 1).trans rfl; have hcz6_2 : w3.cell? ⟨gb122, 2, none⟩ = some (.int .i64 0) := (blk_cell BK122.out 2).trans rfl; have hcz6_3 : w3.cell? ⟨gb122, 3, none⟩ = some (.int .i64 0) := (blk_cell BK122.out 3).trans rfl; have hcz6_4 : w3.cell? ⟨gb122, 4, none⟩ = some (.int .i64 0) := (blk_cell BK122.out 4).trans rfl; have hfz6_0 := blk_frozen BK122.out 0; have hfz6_1 := blk_frozen BK122.out 1; have hfz6_2 := blk_frozen BK122.out 2; have hfz6_3 := blk_frozen BK122.out 3; have hfz6_4 := blk_frozen BK122.out 4))
  refine bodyPost_ret (results_cell_row rfl _ _ gb122 32 #[.int .i32 32, .int .i64 0, .int .i64 0, .int .i64 a0_2, .int .i64 0] (0, 0) _ rfl (by (with_reducible repeat (first | refine blk_drewN ?_ _ | refine blk_drew ?_ | refine blk_alloc ?_ _)); refine blk_put (cs := #[.int .i32 32, .int .i64 0, .int .i64 0, .int .i64 a0_2, .int .i64 0]) ?_ 4 _ rfl; (with_reducible repeat (first | refine blk_drewN ?_ _ | refine blk_drew ?_ | refine blk_alloc ?_ _)); refine blk_put (cs := #[.int .i32 32, .int .i64 0, .int .i64 0, .int .i64 0, .int .i64 0]) ?_ 3 _ rfl; (with_reducible repeat (first | refine blk_drewN ?_ _ | refine blk_drew ?_ | refine blk_alloc ?_ _)); refine blk_put (cs := #[.int .i32 32, .int .i64 0, .int .i64 0, .int .i64 0, .int .i64 0]) ?_ 2 _ rfl; (with_reducible repeat (first | refine blk_drewN ?_ _ | refine blk_drew ?_ | refine blk_alloc ?_ _)); refine blk_put (cs := #[.int .i32 32, .int .i64 0, .int .i64 0, .int .i64 0, .int .i64 0]) ?_ 1 _ rfl; (with_reducible repeat (first | refine blk_drewN ?_ _ | refine blk_drew ?_ | refine blk_alloc ?_ _)); refine blk_put (cs := #[.int .i32 0, .int .i64 0, .int .i64 0, .int .i64 0, .int .i64 0]) ?_ 0 _ rfl; (with_reducible repeat (first | refine blk_drewN ?_ _ | refine blk_drew ?_ | refine blk_alloc ?_ _)); exact BK122.out) Tryd.underlying32 rfl (by kernel_rfl)) rfl ?_
  exact ⟨by first | rfl | (simp [errW_none, errW_some] <;> rfl) | (simp [*, errW_none, errW_some] <;> rfl), by repeat (first | (with_reducible first | exact HB.out | apply below_alloc | apply pw_below_drewN | apply below_drew1 | refine below_set ?_ GE121.out | refine below_set ?_ GE122.out) | exact HB.out)⟩
def tikref6_space.f (a0_0 : Int) (a0_1 : Int) (a0_2 : Int) : Option (Int × Int × Int × Int × Int) := some (32, a0_0, a0_1, a0_2, 0)
set_option maxHeartbeats 8000000 in
set_option maxRecDepth 100000 in
theorem tikref6_space.calls (a0_0 : Int) (a0_1 : Int) (a0_2 : Int) (r1 : Int) (r2 : Int) (r3 : Int) (r4 : Int) (r5 : Int) (w : World) (h : tikref6_space.f a0_0 a0_1 a0_2 = some (r1, r2, r3, r4, r5)) :
    Calls Tryd.prog 59 #[.agg #[.int .i64 a0_0, .int .i64 a0_1, .int .i64 a0_2]] w fun e w' => e = .returned (.agg #[.int .i32 r1, .int .i64 r2, .int .i64 r3, .int .i64 r4, .int .i64 r5]) ∧ Below w.heap.size w w' := by
  have hu23 := Tryd.underlying23
  have hu32 := Tryd.underlying32
  have HB := Aside0.mk (Below.refl w.heap.size w)
  have H : (some (32, a0_0, a0_1, a0_2, 0)) = some (r1, r2, r3, r4, r5) := h
  clear h
  simp only [Option.some.injEq, Prod.mk.injEq] at H
  obtain ⟨rfl, rfl, rfl, rfl, rfl⟩ := H
  go_enter Tryd.func59, Tryd.ntmps59
  go_wp2_with (first | ((with_reducible refine gate_dst (N := 1) rfl ?_); refine box_event ?hg (N := 1) ?hd (cs := #[.int .i64 a0_0, .int .i64 a0_1, .int .i64 a0_2]) (t := 23) ?hr ?_; (case hd => rfl); (case hg => rfl); (case hr => first | (go_simp; done) | (go_simp; rfl)); intro gb123 hg w2 hbox hb; have n0_ := Aside0.mk (below_step (by repeat (first | (with_reducible first | exact HB.out | apply below_alloc | apply pw_below_drewN | apply below_drew1) | exact HB.out)) hb); have n1_ := Aside0.mk (hbox); have n2_ := Aside0.mk ((by rw [hg]; exact (below_size (by repeat (first | (with_reducible first | exact HB.out | apply below_alloc | apply pw_below_drewN | apply below_drew1) | exact HB.out))) : w.heap.size ≤ gb123)); have n3_ := Aside0.mk ((by rw [hg]; exact (below_size (by repeat (first | (with_reducible first | exact HB.out | apply below_alloc | apply pw_below_drewN | apply below_drew1) | exact HB.out))) : w.heap.size ≤ gb123)); clear HB; have HB := n0_; have BK123 := n1_; have GW123 := n2_; have GE123 := n3_; clear n0_ n1_ n2_ n3_; clear hb hbox hg) | ((with_reducible refine gate_dst (N := 2) rfl ?_); refine box_event ?hg (N := 2) ?hd (cs := #[.int .i32 0, .int .i64 0, .int .i64 0, .int .i64 0, .int .i64 0]) (t := 32) ?hr ?_; (case hd => rfl); (case hg => rfl); (case hr => first | (go_simp; done) | (go_simp; rfl)); intro gb124 hg w3 hbox hb; have n0_ := Aside0.mk (blk_below (g := gb123) (o := .cells #[.int .i64 a0_0, .int .i64 a0_1, .int .i64 a0_2] 23 (0, 0)) (by (with_reducible repeat (first | refine blk_drewN ?_ _ | refine blk_drew ?_ | refine blk_alloc ?_ _)); exact BK123.out) hb); have n1_ := Aside0.mk (below_step (by repeat (first | (with_reducible first | exact HB.out | apply below_alloc | apply pw_below_drewN | apply below_drew1 | refine below_set ?_ GE123.out) | exact HB.out)) hb); have n2_ := Aside0.mk (hbox); have n3_ := Aside0.mk ((by rw [hg]; exact (below_size (by repeat (first | (with_reducible first | exact HB.out | apply below_alloc | apply pw_below_drewN | apply below_drew1 | refine below_set ?_ GE123.out) | exact HB.out))) : w.heap.size ≤ gb124)); have n4_ := Aside0.mk ((by rw [hg]; exact (below_size (by repeat (first | (with_reducible first | exact HB.out | apply below_alloc | apply pw_below_drewN | apply below_drew1 | refine below_set ?_ GE123.out) | exact HB.out))) : w.heap.size ≤ gb124)); have n5_ := Aside0.mk ((by rw [hg]; exact Nat.ne_of_lt (blk_lt (g := gb123) (o := .cells #[.int .i64 a0_0, .int .i64 a0_1, .int .i64 a0_2] 23 (0, 0)) (by (with_reducible repeat (first | refine blk_drewN ?_ _ | refine blk_drew ?_ | refine blk_alloc ?_ _)); exact BK123.out)) : gb123 ≠ gb124)); have n6_ := Aside0.mk ((by rw [hg]; exact Nat.ne_of_gt (blk_lt (g := gb123) (o := .cells #[.int .i64 a0_0, .int .i64 a0_1, .int .i64 a0_2] 23 (0, 0)) (by (with_reducible repeat (first | refine blk_drewN ?_ _ | refine blk_drew ?_ | refine blk_alloc ?_ _)); exact BK123.out)) : gb124 ≠ gb123)); clear BK123; clear HB; have BK123 := n0_; have HB := n1_; have BK124 := n2_; have GW124 := n3_; have GE124 := n4_; have NB123_124 := n5_; have NB124_123 := n6_; clear n0_ n1_ n2_ n3_ n4_ n5_ n6_; clear hb hbox hg; have hnb4 := NB123_124.out; have hnc4 := NB124_123.out; have hcz5_0 : w3.cell? ⟨gb123, 0, none⟩ = some (.int .i64 a0_0) := (blk_cell BK123.out 0).trans rfl; have hcz5_1 : w3.cell? ⟨gb123, 1, none⟩ = some (.int .i64 a0_1) := (blk_cell BK123.out 1).trans rfl; have hcz5_2 : w3.cell? ⟨gb123, 2, none⟩ = some (.int .i64 a0_2) := (blk_cell BK123.out 2).trans rfl; have hfz5_0 := blk_frozen BK123.out 0; have hfz5_1 := blk_frozen BK123.out 1; have hfz5_2 := blk_frozen BK123.out 2; have hcz6_0 : w3.cell? ⟨gb124, 0, none⟩ = some (.int .i32 0) := (blk_cell BK124.out 0).trans rfl; have hcz6_1 : w3.cell? ⟨gb124, 1, none⟩ = some (.int .i64 0) := (blk_cell BK124.out 1).trans rfl; have hcz6_2 : w3.cell? ⟨gb124, 2, none⟩ = some (.int .i64 0) := (blk_cell BK124.out 2).trans rfl; have hcz6_3 : w3.cell? ⟨gb124, 3, none⟩ = some (.int .i64 0) := (blk_cell BK124.out 3).trans rfl; have hcz6_4 : w3.cell? ⟨gb124, 4, none⟩ = some (.int .i64 0) := (blk_cell BK124.out 4).trans rfl; have hfz6_0 := blk_frozen BK124.out 0; have hfz6_1 := blk_frozen BK124.out 1; have hfz6_2 := blk_frozen BK124.out 2; have hfz6_3 := blk_frozen BK124.out 3; have hfz6_4 := blk_frozen BK124.out 4))
  refine bodyPost_ret (results_cell_row rfl _ _ gb124 32 #[.int .i32 32, .int .i64 a0_0, .int .i64 a0_1, .int .i64 a0_2, .int .i64 0] (0, 0) _ rfl (by (with_reducible repeat (first | refine blk_drewN ?_ _ | refine blk_drew ?_ | refine blk_alloc ?_ _)); refine blk_put (cs := #[.int .i32 32, .int .i64 a0_0, .int .i64 a0_1, .int .i64 a0_2, .int .i64 0]) ?_ 4 _ rfl; (with_reducible repeat (first | refine blk_drewN ?_ _ | refine blk_drew ?_ | refine blk_alloc ?_ _)); refine blk_put (cs := #[.int .i32 32, .int .i64 a0_0, .int .i64 a0_1, .int .i64 0, .int .i64 0]) ?_ 3 _ rfl; (with_reducible repeat (first | refine blk_drewN ?_ _ | refine blk_drew ?_ | refine blk_alloc ?_ _)); refine blk_put (cs := #[.int .i32 32, .int .i64 a0_0, .int .i64 0, .int .i64 0, .int .i64 0]) ?_ 2 _ rfl; (with_reducible repeat (first | refine blk_drewN ?_ _ | refine blk_drew ?_ | refine blk_alloc ?_ _)); refine blk_put (cs := #[.int .i32 32, .int .i64 0, .int .i64 0, .int .i64 0, .int .i64 0]) ?_ 1 _ rfl; (with_reducible repeat (first | refine blk_drewN ?_ _ | refine blk_drew ?_ | refine blk_alloc ?_ _)); refine blk_put (cs := #[.int .i32 0, .int .i64 0, .int .i64 0, .int .i64 0, .int .i64 0]) ?_ 0 _ rfl; (with_reducible repeat (first | refine blk_drewN ?_ _ | refine blk_drew ?_ | refine blk_alloc ?_ _)); exact BK124.out) Tryd.underlying32 rfl (by kernel_rfl)) rfl ?_
  exact ⟨by first | rfl | (simp [errW_none, errW_some] <;> rfl) | (simp [*, errW_none, errW_some] <;> rfl), by repeat (first | (with_reducible first | exact HB.out | apply below_alloc | apply pw_below_drewN | apply below_drew1 | refine below_set ?_ GE123.out | refine below_set ?_ GE124.out) | exact HB.out)⟩
def tikref6_Size.f (a0 : Int) (a1 : Int) : Option (Bool) := if a0 ≥ 1 then (if a0 ≤ 60 then (if a1 ≥ 1 then (some (decide (a1 ≤ 200))) else (some false)) else (some false)) else (some false)
set_option maxHeartbeats 8000000 in
set_option maxRecDepth 100000 in
theorem tikref6_Size.calls (a0 : Int) (a1 : Int) (r : Bool) (w : World) (h : tikref6_Size.f a0 a1 = some r) :
    Calls Tryd.prog 42 #[.int .i64 a0, .int .i64 a1] w fun e w' => e = .returned (.bool r) ∧ Drawn0 w w' := by
  have H : (if a0 ≥ 1 then (if a0 ≤ 60 then (if a1 ≥ 1 then (some (decide (a1 ≤ 200))) else (some false)) else (some false)) else (some false)) = some r := h
  clear h
  by_cases c3 : a0 ≥ 1
  · rw [if_pos c3] at H
    have c3b0 : decide (1 ≤ a0) = true := decide_eq_true c3
    clear c3
    by_cases c4 : a0 ≤ 60
    · rw [if_pos c4] at H
      have c4b0 : decide (a0 ≤ 60) = true := decide_eq_true c4
      clear c4
      by_cases c5 : a1 ≥ 1
      · rw [if_pos c5] at H
        have c5b0 : decide (1 ≤ a1) = true := decide_eq_true c5
        clear c5
        obtain rfl := Option.some.inj H
        go_enter Tryd.func42, Tryd.ntmps42
        go_wp2
        go_ret
        exact ⟨by first | rfl | (simp; done) | (simp [*]; done), by repeat (first | exact Drawn0.refl _ | apply Drawn0.step)⟩
      · rw [if_neg c5] at H
        have c5b0 : decide (1 ≤ a1) = false := decide_eq_false c5
        clear c5
        obtain rfl := Option.some.inj H
        go_enter Tryd.func42, Tryd.ntmps42
        go_wp2
        go_ret
        exact ⟨by first | rfl | (simp; done) | (simp [*]; done), by repeat (first | exact Drawn0.refl _ | apply Drawn0.step)⟩
    · rw [if_neg c4] at H
      have c4b0 : decide (a0 ≤ 60) = false := decide_eq_false c4
      clear c4
      obtain rfl := Option.some.inj H
      go_enter Tryd.func42, Tryd.ntmps42
      go_wp2
      go_ret
      exact ⟨by first | rfl | (simp; done) | (simp [*]; done), by repeat (first | exact Drawn0.refl _ | apply Drawn0.step)⟩
  · rw [if_neg c3] at H
    have c3b0 : decide (1 ≤ a0) = false := decide_eq_false c3
    clear c3
    obtain rfl := Option.some.inj H
    go_enter Tryd.func42, Tryd.ntmps42
    go_wp2
    go_ret
    exact ⟨by first | rfl | (simp; done) | (simp [*]; done), by repeat (first | exact Drawn0.refl _ | apply Drawn0.step)⟩
end Go.Proofs.YtcfndcjbgalnpaaDoor.PD
namespace Go.Proofs.YtcfndcjbgalnpaaDoor.Hand
open Go.RowKit Go.Proofs.YtcfndcjbgalnpaaDoorW.PrintWords Go.Proofs.YtcfndcjbgalnpaaDoorW.PrintLast
structure RefAt (w : World) (base g b r c : Nat) (L : List C5) : Prop where
  blk : ∃ cap, w.heap[g]? = some (.cells #[.int .i64 r, .int .i64 c, .slice (some ⟨b, 0, none⟩) L.length cap] 59 (0, 0)) ∧ L.length ≤ cap ∧ cap ≤ maxLen
  row : RowAt w b L
  len : L.length = r * c
  r1 : 1 ≤ r
  r2 : r ≤ 60
  c1 : 1 ≤ c
  c2 : c ≤ 200
  gb : g ≠ b
  bg : base ≤ g
  bb : base ≤ b
theorem RefAt.small {w : World} {base g b r c : Nat} {L : List C5} (h : RefAt w base g b r c L) : L.length ≤ 12000 := by
  have := Nat.mul_le_mul h.r2 h.c2
  rw [h.len]
  exact this
theorem RefAt.lower {w : World} {base base' g b r c : Nat} {L : List C5} (h : RefAt w base g b r c L) (hb : base' ≤ base) : RefAt w base' g b r c L := { h with bg := Nat.le_trans hb h.bg, bb := Nat.le_trans hb h.bb }
theorem RefAt.grown {w w' : World} {base g b r c : Nat} {L : List C5} {row : Option Nat} (h : RefAt w base g b r c L) (hg : w.grownBy w' row) (h1 : some g ≠ row) (h2 : some b ≠ row) : RefAt w' base g b r c L := by
  obtain ⟨cap, e, e1, e2⟩ := h.blk
  exact { h with blk := ⟨cap, (hg.block g (blk_lt e) h1).trans e, e1, e2⟩, row := h.row.grown hg h2 }
theorem RefAt.below {w w' : World} {base g b r c : Nat} {L : List C5} (h : RefAt w base g b r c L) (hb : Below w.heap.size w w') : RefAt w' base g b r c L :=
  h.grown (row := none) (grown_of_none hb) (by simp) (by simp)
theorem RefAt.wrote {w w' : World} {base g b r c : Nat} {L L' : List C5} (h : RefAt w base g b r c L) (hg : w.grownBy w' (some b)) (hR : RowAt w' b L') (hl : L'.length = L.length) : RefAt w' base g b r c L' := by
  obtain ⟨cap, e, e1, e2⟩ := h.blk
  exact { h with blk := ⟨cap, by rw [hl]; exact (hg.block g (blk_lt e) (fun e => h.gb (Option.some.inj e))).trans e, by rw [hl]; exact e1, e2⟩, row := hR, len := hl.trans h.len }
theorem RefAt.cells {w : World} {base g b r c : Nat} {L : List C5} (h : RefAt w base g b r c L) : ∃ cap, L.length ≤ cap ∧ cap ≤ maxLen ∧ w.cell? ⟨g, 0, none⟩ = some (.int .i64 r) ∧ w.cell? ⟨g, 1, none⟩ = some (.int .i64 c) ∧ w.cell? ⟨g, 2, none⟩ = some (.slice (some ⟨b, 0, none⟩) L.length cap) := by
  obtain ⟨cap, e, e1, e2⟩ := h.blk
  exact ⟨cap, e1, e2, (blk_cell e 0).trans rfl, (blk_cell e 1).trans rfl, (blk_cell e 2).trans rfl⟩
theorem there_calls {w : World} {base g b r c : Nat} {L : List C5} (h : RefAt w base g b r c L) (row col : Int) :
    Calls Tryd.prog 50 #[.pointer (some ⟨g, 0, none⟩), .int .i64 row, .int .i64 col] w (fun e w' => e = .returned (.bool (isB r c row col)) ∧ w' = w) := by
  obtain ⟨cap, _, _, h0, h1, h2⟩ := h.cells
  unfold isB
  by_cases p1 : 0 ≤ row
  case neg =>
    rw [show decide (0 ≤ row ∧ row < r ∧ 0 ≤ col ∧ col < c) = false from decide_eq_false (fun q => p1 q.1)]
    go_enter Tryd.func50, Tryd.ntmps50
    go_wp2
    go_ret
    exact ⟨rfl, rfl⟩
  by_cases p2 : row < r
  case neg =>
    rw [show decide (0 ≤ row ∧ row < r ∧ 0 ≤ col ∧ col < c) = false from decide_eq_false (fun q => p2 q.2.1)]
    go_enter Tryd.func50, Tryd.ntmps50
    go_wp2
    go_ret
    exact ⟨rfl, rfl⟩
  by_cases p3 : 0 ≤ col
  case neg =>
    rw [show decide (0 ≤ row ∧ row < r ∧ 0 ≤ col ∧ col < c) = false from decide_eq_false (fun q => p3 q.2.2.1)]
    go_enter Tryd.func50, Tryd.ntmps50
    go_wp2
    go_ret
    exact ⟨rfl, rfl⟩
  by_cases p4 : col < c
  case neg =>
    rw [show decide (0 ≤ row ∧ row < r ∧ 0 ≤ col ∧ col < c) = false from decide_eq_false (fun q => p4 q.2.2.2)]
    go_enter Tryd.func50, Tryd.ntmps50
    go_wp2
    go_ret
    exact ⟨by simp [p4], rfl⟩
  rw [show decide (0 ≤ row ∧ row < r ∧ 0 ≤ col ∧ col < c) = true from decide_eq_true ⟨p1, p2, p3, p4⟩]
  go_enter Tryd.func50, Tryd.ntmps50
  go_wp2
  go_ret
  exact ⟨by simp [p4], rfl⟩
section
variable {ops : Array Oper} {oi : Oper} {a : Act} {K : Act → World → Prop} {Q : Exit → Act → World → Prop} {W : World}
theorem skip_store_cell {b o' : Nat} {L : List C5} (hw : Region.wanted oi (yielded ops a.tmps) = true) (hN : oi.dst = none) {t : TypeId} {p x : Operand} (ho : oi.op = .store t p x) (hR : RowAt W b L) (i : Nat) (hi : i < L.length) (c : C5) (ht : (Tryd.prog.info? t).map (·.size) = some 5)
    (hp : a.eval p = .pointer (some ⟨b, o', none⟩)) (hoff : o' = 5 * i) (hx : a.eval x = c.agg) (h : ∀ w', RowAt w' b (L.set i c) → W.grownBy w' (some b) → K a w') :
    if Region.wanted oi (yielded ops a.tmps) = true then Oper.wp Tryd.prog oi a W K Q else K (a.put none undef) W := by
  subst hoff
  obtain ⟨hrun, hR'⟩ := run_store_cell hR i hi c t ht
  refine skip_ hw hN ?_ (h _ hR' (grown_setCells _ _ _ _))
  unfold execOp
  simp only [ho, hp, hx, Sem.run_bind, Sem.run_pure, Result.andThen_ok, hrun]
theorem skip_store_box {g : Nat} {cs : Array Value} (hw : Region.wanted oi (yielded ops a.tmps) = true) (hN : oi.dst = none) {t : TypeId} {p x : Operand} (ho : oi.op = .store t p x) (hB : W.heap[g]? = some (.cells cs 32 (0, 0))) (hcs : cs.size = 5) (c : C5) (ht : (Tryd.prog.info? t).map (·.size) = some 5)
    (hp : a.eval p = .pointer (some ⟨g, 0, none⟩)) (hx : a.eval x = c.agg) (h : ∀ w', w'.heap[g]? = some (boxO c) → W.grownBy w' (some g) → K a w') :
    if Region.wanted oi (yielded ops a.tmps) = true then Oper.wp Tryd.prog oi a W K Q else K (a.put none undef) W := by
  have h5 : ∀ q ∈ c.vs, q.oneCell' = true := by
    have h6 := flat_one [c]
    rwa [show flat [c] = c.vs by simp [flat_cons, flat_nil]] at h6
  have hrun := run_store_run (P := Tryd.prog) t c.agg c.vs (o := 0) hB rfl ht (by rw [C5.vs_length]; omega) h5
  obtain ⟨cur', h2, h3, h4⟩ := setCells_row c.vs 0 W cs hB (by rw [C5.vs_length]; omega)
  have hl : cs.toList.length = 5 := by rw [Array.length_toList]; exact hcs
  have e : cur' = #[.int .i32 c.r, .int .i64 c.f, .int .i64 c.g, .int .i64 c.b, .int .i64 c.w] := by
    apply Array.toList_inj.1
    rw [h4, List.take_zero, List.nil_append, List.drop_of_length_le (by rw [C5.vs_length]; omega), List.append_nil]
    rfl
  rw [e] at h2
  refine skip_ hw hN ?_ (h _ h2 (grown_setCells _ _ _ _))
  unfold execOp
  simp only [ho, hp, hx, Sem.run_bind, Sem.run_pure, Result.andThen_ok, hrun]
end
end Go.Proofs.YtcfndcjbgalnpaaDoor.Hand
namespace Go.Proofs.YtcfndcjbgalnpaaDoor.Hand
open Go.RowKit Go.Proofs.YtcfndcjbgalnpaaDoorW.PrintWords Go.Proofs.YtcfndcjbgalnpaaDoorW.PrintLast
structure KBase (w : World) (g b r c n cap : Nat) (xs : List (Nat × Obj)) (W : World) : Prop where
  grown : w.grownBy W (some b)
  blk : W.heap[g]? = some (.cells #[.int .i64 r, .int .i64 c, .slice (some ⟨b, 0, none⟩) n cap] 59 (0, 0))
  row : ∃ cs, W.heap[b]? = some (.cells cs 32 (0, 0))
  ext : ∀ p ∈ xs, W.heap[p.1]? = some p.2
  far : ∀ p ∈ xs, p.1 ≠ b
section
variable {w W W' : World} {g b r c n cap : Nat} {xs : List (Nat × Obj)} {L : List C5}
theorem KBase.next (h : KBase w g b r c n cap xs W) (hb : Below W.heap.size W W') : KBase w g b r c n cap xs W' :=
  ⟨grown_below h.grown hb, blk_below h.blk hb, h.row.elim fun cs q => ⟨cs, blk_below q hb⟩, fun p hp => blk_below (h.ext p hp) hb, h.far⟩
theorem KBase.wrote (h : KBase w g b r c n cap xs W) (hR : RowAt W' b L) (hg : W.grownBy W' (some b)) : KBase w g b r c n cap xs W' := by
  obtain ⟨cs, hb⟩ := h.row
  obtain ⟨ex, hb2⟩ := hR.out
  exact ⟨grown_trans h.grown hg, (hg.block g (blk_lt h.blk) (fun e => blk_ne h.blk hb (by decide) (Option.some.inj e))).trans h.blk, ⟨_, hb2⟩, fun p hp => (hg.block p.1 (blk_lt (h.ext p hp)) (fun e => h.far p hp (Option.some.inj e))).trans (h.ext p hp), h.far⟩
theorem KBase.c0 (h : KBase w g b r c n cap xs W) : W.cell? ⟨g, 0, none⟩ = some (.int .i64 (r : Int)) := (blk_cell h.blk 0).trans rfl
theorem KBase.c1 (h : KBase w g b r c n cap xs W) : W.cell? ⟨g, 1, none⟩ = some (.int .i64 (c : Int)) := (blk_cell h.blk 1).trans rfl
theorem KBase.c2 (h : KBase w g b r c n cap xs W) : W.cell? ⟨g, 2, none⟩ = some (.slice (some ⟨b, 0, none⟩) n cap) := (blk_cell h.blk 2).trans rfl
theorem KBase.more (h : KBase w g b r c n cap xs W) {k : Nat} {o : Obj} (hk : W.heap[k]? = some o) (hb : k ≠ b) : KBase w g b r c n cap ((k, o) :: xs) W :=
  ⟨h.grown, h.blk, h.row, fun p hp => (List.mem_cons.1 hp).elim (fun e => by rw [e]; exact hk) (h.ext p), fun p hp => (List.mem_cons.1 hp).elim (fun e => by rw [e]; exact hb) (h.far p)⟩
theorem KBase.top {k : Nat} {o : Obj} (h : KBase w g b r c n cap ((k, o) :: xs) W) : W.heap[k]? = some o := h.ext (k, o) List.mem_cons_self
theorem KBase.second {k k2 : Nat} {o o2 : Obj} (h : KBase w g b r c n cap ((k, o) :: (k2, o2) :: xs) W) : W.heap[k2]? = some o2 := h.ext (k2, o2) (List.mem_cons_of_mem _ List.mem_cons_self)
theorem KBase.drop {p : Nat × Obj} (h : KBase w g b r c n cap (p :: xs) W) : KBase w g b r c n cap xs W :=
  ⟨h.grown, h.blk, h.row, fun q hq => h.ext q (List.mem_cons_of_mem _ hq), fun q hq => h.far q (List.mem_cons_of_mem _ hq)⟩
theorem RefAt.kbase {base : Nat} (h : RefAt w base g b r c L) (hg : Below w.heap.size w W) : ∃ cap, L.length ≤ cap ∧ cap ≤ maxLen ∧ KBase w g b r c L.length cap [] W := by
  obtain ⟨cap, e, e1, e2⟩ := h.blk
  obtain ⟨ex, hb⟩ := h.row.out
  exact ⟨cap, e1, e2, ⟨grown_of_none hg, blk_below e hg, ⟨_, blk_below hb hg⟩, fun p hp => absurd hp List.not_mem_nil, fun p hp => absurd hp List.not_mem_nil⟩⟩
end
end Go.Proofs.YtcfndcjbgalnpaaDoor.Hand
