/- Texts of this claim, put together. -/
import Derived.Test.YtcfndcjbgalnpaaDoorMGPa
import Derived.Deep.CutRange
import Derived.Deep.CutBlock
import Derived.Test.YtcfndcjbgalnpaaDoorRows
import Derived.Test.YtcfndcjbgalnpaaDoorTie
import Derived.Test.YtcfndcjbgalnpaaDoorCards
import Derived.WalkKit
import Derived.ProofKit
import Derived.OpenShut
import Derived.ShutString
import Derived.ChangeOld
import Derived.Below
import Derived.SizedLaws
import Derived.LaidMore
import Derived.Stop.Joined
import Derived.SevenTiedAt
set_option linter.unusedVariables false
set_option linter.unusedSimpArgs false
namespace Go.Proofs.YtcfndcjbgalnpaaDoor.Hand
open Go.RowKit Go.Proofs.YtcfndcjbgalnpaaDoorW.PrintWords
def MayC (x : C5) : Prop := PB.cell_May.f 9 x.r x.f x.g x.b x.w = some true
def LookOk (f g b : Int) : Prop := PB.cell_MayAttr.f f g b = some true
theorem look_some (f g b : Int) : ∃ r, PB.cell_MayAttr.f f g b = some r := by
  have hc : ∀ x, ∃ r, PB.cell_colour.f x = some r := by
    intro x
    unfold PB.cell_colour.f
    repeat' split
    all_goals exact ⟨_, rfl⟩
  obtain ⟨r1, h1⟩ := hc g
  obtain ⟨r2, h2⟩ := hc b
  unfold PB.cell_MayAttr.f
  rw [h1, h2]
  simp only [Option.bind_some]
  repeat' split
  all_goals exact ⟨_, rfl⟩
theorem w64_1 : wrap64 (0 + 1) = 1 := by unfold RowKit.wrap64; decide
theorem w64_2 : wrap64 (1 + 1) = 2 := by unfold RowKit.wrap64; decide
theorem may_value (r f g b w : Int) : ∃ m l, PB.cell_MayAttr.f f g b = some l ∧ PB.cell_May.f 9 r f g b w = some m ∧ (m = true ↔ l = true ∧ ((w = 0 ∧ wd r = 1) ∨ (w = 1 ∧ wd r = 2) ∨ (w = 2 ∧ r = 0))) := by
  obtain ⟨l, hl⟩ := look_some f g b
  by_cases h0 : w = 0
  · subst h0
    by_cases h : wd r = 1
    · exact ⟨l, l, hl, by simp only [PB.cell_May.f, PB.cell_May.j0, cell_Width.f, Option.bind_some, w64_1, h, hl, if_true, beq_self_eq_true], by simp [h]⟩
    · exact ⟨false, l, hl, by simp only [PB.cell_May.f, PB.cell_May.j0, cell_Width.f, Option.bind_some, w64_1, h, hl, if_true, if_false, beq_self_eq_true], by simp [h]⟩
  by_cases h1 : w = 1
  · subst h1
    by_cases h : wd r = 2
    · exact ⟨l, l, hl, by simp only [PB.cell_May.f, PB.cell_May.j0, cell_Width.f, Option.bind_some, w64_2, h, hl, if_true, beq_self_eq_true, h0, if_false], by simp [h]⟩
    · exact ⟨false, l, hl, by simp only [PB.cell_May.f, PB.cell_May.j0, cell_Width.f, Option.bind_some, w64_2, h, hl, if_true, if_false, beq_self_eq_true, h0], by simp [h]⟩
  have hb : (w == 1) = false := beq_eq_false_iff_ne.2 h1
  by_cases h2 : w = 2
  · subst h2
    by_cases h : r = 0
    · exact ⟨l, l, hl, by simp only [PB.cell_May.f, PB.cell_May.j0, hb, h0, h, hl, Option.bind_some, if_false, if_true, Bool.false_eq_true], by simp [h]⟩
    · exact ⟨false, l, hl, by simp only [PB.cell_May.f, PB.cell_May.j0, hb, h0, h, hl, Option.bind_some, if_false, if_true, Bool.false_eq_true], by simp [h]⟩
  · exact ⟨false, l, hl, by simp only [PB.cell_May.f, PB.cell_May.j0, hb, h0, h2, if_false, Bool.false_eq_true], by simp [h0, h1, h2]⟩
theorem mayC_iff {x : C5} : MayC x ↔ LookOk x.f x.g x.b ∧ ((x.w = 0 ∧ wd x.r = 1) ∨ (x.w = 1 ∧ wd x.r = 2) ∨ (x.w = 2 ∧ x.r = 0)) := by
  obtain ⟨m, l, hl, hm, h⟩ := may_value x.r x.f x.g x.b x.w
  unfold MayC LookOk
  rw [hm, hl]
  simpa using h
theorem may_some (x : C5) : ∃ m, PB.cell_May.f 9 x.r x.f x.g x.b x.w = some m := by
  obtain ⟨m, l, hl, hm, h⟩ := may_value x.r x.f x.g x.b x.w
  exact ⟨m, hm⟩
theorem wd_32 : wd 32 = 1 := by decide +kernel
theorem look_bg {f g b : Int} (h : LookOk f g b) : LookOk 0 0 b := by
  unfold LookOk PB.cell_MayAttr.f at *
  have hc : ∀ x, ∃ r, PB.cell_colour.f x = some r := by
    intro x
    unfold PB.cell_colour.f
    repeat' split
    all_goals exact ⟨_, rfl⟩
  obtain ⟨r1, h1⟩ := hc g
  obtain ⟨r2, h2⟩ := hc b
  have h0 : PB.cell_colour.f 0 = some true := by decide
  rw [h1, h2] at h
  simp only [Option.bind_some] at h
  rw [h0, h2]
  simp only [Option.bind_some]
  rw [if_pos (by decide), if_pos (by decide), if_pos trivial]
  split at h
  · split at h
    · split at h
      · exact h
      · cases h
    · cases h
  · cases h
theorem mayC_blank {f g b : Int} (h : LookOk f g b) : MayC (blankC b) := mayC_iff.2 ⟨look_bg h, .inl ⟨rfl, wd_32⟩⟩
theorem mayC_space {x : C5} (h : MayC x) : MayC ⟨32, x.f, x.g, x.b, 0⟩ := mayC_iff.2 ⟨(mayC_iff.1 h).1, .inl ⟨rfl, wd_32⟩⟩
theorem mayC_right {x : C5} (h : MayC x) : MayC ⟨0, x.f, x.g, x.b, 2⟩ := mayC_iff.2 ⟨(mayC_iff.1 h).1, .inr (.inr ⟨rfl, rfl⟩)⟩
theorem mayC_blank0 : MayC (blankC 0) := mayC_blank (f := 0) (g := 0) (b := 0) (by unfold LookOk; decide)
def AllMay (L : List C5) : Prop := ∀ x ∈ L, MayC x
theorem AllMay.get {L : List C5} (h : AllMay L) {i : Nat} (hi : i < L.length) : MayC (L.getD i z5) := by
  rw [List.getD_eq_getElem?_getD, List.getElem?_eq_getElem hi]
  exact h _ (List.getElem_mem hi)
theorem AllMay.spl {L M : List C5} (h : AllMay L) (h2 : AllMay M) (o : Nat) : AllMay (splice L o M) := by
  intro x hx
  unfold splice at hx
  simp only [List.mem_append] at hx
  rcases hx with hx | hx | hx
  · exact h x (List.mem_of_mem_take hx)
  · exact h2 x hx
  · exact h x (List.mem_of_mem_drop hx)
theorem AllMay.part {L : List C5} (h : AllMay L) (o m : Nat) : AllMay ((L.drop o).take m) := fun x hx => h x (List.mem_of_mem_drop (List.mem_of_mem_take hx))
theorem AllMay.rep {x : C5} (h : MayC x) (n : Nat) : AllMay (List.replicate n x) := fun y hy => by rw [List.eq_of_mem_replicate hy]; exact h
theorem AllMay.set {L : List C5} (h : AllMay L) (i : Nat) {x : C5} (hx : MayC x) : AllMay (L.set i x) := fun y hy => by
  rcases List.mem_or_eq_of_mem_set hy with hy | rfl
  · exact h y hy
  · exact hx
theorem AllMay.mendL {L : List C5} (h : AllMay L) : AllMay (mendL L) := by
  intro x hx
  obtain ⟨i, hi⟩ := List.mem_iff_getElem?.1 hx
  have hl : i < L.length := by
    have := (List.getElem?_eq_some_iff.1 hi).1
    rwa [mendL_length] at this
  rw [mendL_get L i hl] at hi
  obtain rfl := Option.some.inj hi
  unfold mendC
  split
  · exact mayC_space (h.get hl)
  · exact h.get hl
def RowOk (l : List C5) : Prop := ∀ i, i < l.length → aloneL l i = false
theorem getD_mendC {l : List C5} {i : Nat} (h : i < l.length) : (mendL l).getD i z5 = mendC l i := getD_mendL h
theorem mendC_w {l : List C5} {i : Nat} (h : aloneL l i = true) : (mendC l i).w = 0 := by unfold mendC; rw [if_pos h]
theorem mend_ok (l : List C5) : RowOk (mendL l) := by
  intro i hi
  rw [mendL_length] at hi
  unfold aloneL
  rw [mendL_length, getD_mendC hi]
  cases ha : aloneL l i with
  | true =>
    rw [mendC_w ha]
    rfl
  | false =>
    rw [mendC_keep ha]
    unfold aloneL at ha
    rw [Bool.or_eq_false_iff] at ha
    obtain ⟨h1, h2⟩ := ha
    by_cases w1 : (l.getD i z5).w = 1
    · have e1 : ((l.getD i z5).w == 1) = true := beq_iff_eq.2 w1
      have e2 : ((l.getD i z5).w == 2) = false := by rw [w1]; rfl
      rw [e1, Bool.true_and, Bool.or_eq_false_iff] at h1
      have hn : i + 1 < l.length := by
        have := beq_eq_false_iff_ne.1 h1.1
        omega
      have hw2 : (l.getD (i + 1) z5).w = 2 := by simpa using h1.2
      have ha2 : aloneL l (i + 1) = false := by
        unfold aloneL
        rw [hw2, show i + 1 - 1 = i by omega, w1]
        simp
      rw [e1, e2, getD_mendC hn, mendC_keep ha2, hw2, h1.1]
      rfl
    · have e1 : ((l.getD i z5).w == 1) = false := beq_eq_false_iff_ne.2 w1
      rw [e1]
      by_cases w2 : (l.getD i z5).w = 2
      · have e2 : ((l.getD i z5).w == 2) = true := beq_iff_eq.2 w2
        rw [e2, Bool.true_and, Bool.or_eq_false_iff] at h2
        have hi0 : i ≠ 0 := beq_eq_false_iff_ne.1 h2.1
        have hw1 : (l.getD (i - 1) z5).w = 1 := by simpa using h2.2
        have ha2 : aloneL l (i - 1) = false := by
          unfold aloneL
          rw [hw1, show i - 1 + 1 = i by omega, w2]
          have : (i == l.length) = false := beq_eq_false_iff_ne.2 (by omega)
          simp [this]
        rw [e2, getD_mendC (show i - 1 < l.length by omega), mendC_keep ha2, hw1, h2.1]
        rfl
      · have e2 : ((l.getD i z5).w == 2) = false := beq_eq_false_iff_ne.2 w2
        rw [e2]
        rfl
theorem narrow_ok {l : List C5} (h : ∀ c ∈ l, c.w = 0) : RowOk l := by
  rw [← mendL_narrow h]
  exact mend_ok l
abbrev rowN (c : Nat) (L : List C5) (n : Nat) : List C5 := (L.drop (n * c)).take c
structure GridOk (r c : Nat) (L : List C5) : Prop where
  may : AllMay L
  ok : ∀ n, n < r → RowOk (rowN c L n)
theorem rowN_get {c : Nat} {L : List C5} {n j : Nat} (hj : j < c) : (rowN c L n)[j]? = L[n * c + j]? := by
  unfold rowN
  rw [List.getElem?_take_of_lt hj, List.getElem?_drop]
theorem rowN_len {r c : Nat} {L : List C5} (hl : L.length = r * c) {n : Nat} (hn : n < r) : (rowN c L n).length = c := part_length L _ _ (by rw [hl]; exact place_le hn)
theorem rowN_ext {r c : Nat} {L M : List C5} (hL : L.length = r * c) {r2 : Nat} (hM : M.length = r2 * c) {n m : Nat} (hn : n < r) (hm : m < r2) (h : ∀ j, j < c → L[n * c + j]? = M[m * c + j]?) : rowN c L n = rowN c M m := by
  apply List.ext_getElem?
  intro j
  rcases Nat.lt_or_ge j c with hj | hj
  · rw [rowN_get hj, rowN_get hj, h j hj]
  · rw [List.getElem?_eq_none (by rw [rowN_len hL hn]; exact hj), List.getElem?_eq_none (by rw [rowN_len hM hm]; exact hj)]
theorem GridOk.row {r c : Nat} {L M : List C5} (h : GridOk r c L) (hl : L.length = r * c) {n : Nat} (hn : n < r) (hM : AllMay M) (hm : M.length = c) : GridOk r c (splice L (n * c) (mendL M)) := by
  have hle := place_le (c := c) hn
  have hsl : (splice L (n * c) (mendL M)).length = r * c := by rw [splice_length _ _ _ (by rw [mendL_length]; omega), hl]
  refine ⟨h.may.spl hM.mendL _, fun k hk => ?_⟩
  by_cases hkn : k = n
  · subst hkn
    have e : rowN c (splice L (k * c) (mendL M)) k = mendL M := by
      apply List.ext_getElem?
      intro j
      rcases Nat.lt_or_ge j c with hj | hj
      · rw [rowN_get hj, splice_get_in _ _ _ _ (by rw [mendL_length]; omega) (by rw [mendL_length]; omega)]
      · rw [List.getElem?_eq_none (by rw [rowN_len hsl hk]; exact hj), List.getElem?_eq_none (by rw [mendL_length]; omega)]
    rw [e]
    exact mend_ok M
  · rw [rowN_ext hsl hl hk hk (fun j hj => ?_)]
    · exact h.ok k hk
    · refine splice_get_out _ _ _ _ (by rw [mendL_length]; omega) ?_
      rw [mendL_length, hm]
      rcases Nat.lt_or_gt_of_ne hkn with h1 | h1
      · exact Or.inl (place_lt h1 hj)
      · right
        have := place_le (n := n) (r := k) (c := c) h1
        omega
end Go.Proofs.YtcfndcjbgalnpaaDoor.Hand
namespace Go.Proofs.YtcfndcjbgalnpaaDoor.Hand
open Go.RowKit Go.Proofs.YtcfndcjbgalnpaaDoorW.PrintWords Go.Proofs.YtcfndcjbgalnpaaDoorW.PrintLast
def fillG (L : List C5) (x : C5) (m : Bool) : List C5 := if (m && (x.w == 0)) = true then List.replicate L.length x else L
theorem splice_all {α : Type} (L M : List α) (h : M.length = L.length) : splice L 0 M = M := by
  unfold splice
  rw [List.take_zero, List.nil_append, List.drop_of_length_le (by omega), List.append_nil]
theorem fill_calls0 {w : World} {b cap : Nat} {L : List C5} (hR : RowAt w b L) (hL : L.length ≤ 12000) (x : C5) (hcap : L.length ≤ cap) :
    Calls Tryd.prog 41 #[.slice (some ⟨b, 0, none⟩) L.length cap, .agg #[.int .i32 x.r, .int .i64 x.f, .int .i64 x.g, .int .i64 x.b, .int .i64 x.w]] w (fun e w' => e = .returned (.tuple #[]) ∧ RowAt w' b (List.replicate L.length x) ∧ w.grownBy w' (some b)) := by
  have h := fill_calls hR 0 L.length (by omega) hL x hcap
  rw [splice_all _ _ (List.length_replicate ..)] at h
  exact h
theorem fillKeep {w w' : World} {base g b r c gb cap : Nat} {L : List C5} {x : C5} (hG : GridAt w base g b r c L) (hX : w.heap[gb]? = some (.cells #[.int .i32 x.r, .int .i64 x.f, .int .i64 x.g, .int .i64 x.b, .int .i64 x.w] 32 (0, 0))) (hne : gb ≠ b) (hg : w.grownBy w' (some b)) (c2 : w.cell? ⟨g, 2, none⟩ = some (.slice (some ⟨b, 0, none⟩) L.length cap)) :
    w'.cell? ⟨gb, 0, none⟩ = some (.int .i32 x.r) ∧ w'.cell? ⟨gb, 1, none⟩ = some (.int .i64 x.f) ∧ w'.cell? ⟨gb, 2, none⟩ = some (.int .i64 x.g) ∧ w'.cell? ⟨gb, 3, none⟩ = some (.int .i64 x.b) ∧ w'.cell? ⟨gb, 4, none⟩ = some (.int .i64 x.w) ∧ w'.cell? ⟨g, 2, none⟩ = some (.slice (some ⟨b, 0, none⟩) L.length cap) := by
  have hX2 := (hg.block gb (blk_lt hX) (fun e => hne (Option.some.inj e))).trans hX
  refine ⟨(blk_cell hX2 0).trans rfl, (blk_cell hX2 1).trans rfl, (blk_cell hX2 2).trans rfl, (blk_cell hX2 3).trans rfl, (blk_cell hX2 4).trans rfl, ?_⟩
  rw [← c2]
  exact World.cell?_of_block (hg.block g (hG.blk.elim fun _ q => blk_lt q.1) (fun e => hG.gb (Option.some.inj e)))
set_option maxHeartbeats 2000000 in
theorem gfill_calls {w : World} {base g b r c : Nat} {L : List C5} (h : GridAt w base g b r c L) (hT : TabW w) (x : C5) (k : Nat) (m : Bool) (hm : PB.cell_May.f k x.r x.f x.g x.b x.w = some m) :
    Calls Tryd.prog 23 #[.pointer (some ⟨g, 0, none⟩), x.agg] w (fun e w' => e = .returned (.tuple #[]) ∧ RowAt w' b (fillG L x m) ∧ w.grownBy w' (some b)) := by
  have HG := Aside0.mk h
  have HT := Aside0.mk hT
  have HM := Aside0.mk hm
  clear h hm hT
  have EO : Aside0 (fillG L x m = if (m && (x.w == 0)) = true then List.replicate L.length x else L) := ⟨rfl⟩
  go_enter Tryd.func23, Tryd.ntmps23
  go_upto_region 1 with ((with_reducible refine gate_dst (N := 3) rfl ?_); refine box_event ?hg (N := 3) ?hd (cs := #[.int .i32 x.r, .int .i64 x.f, .int .i64 x.g, .int .i64 x.b, .int .i64 x.w]) (t := 32) ?hr ?_; (case hd => rfl); (case hg => rfl); (case hr => first | (go_simp; done) | (go_simp; rfl)); intro gb hg w3 hbox hb; have HX := Aside0.mk hbox; have HB3 := Aside0.mk hb; have HGE := Aside0.mk (Nat.le_of_eq hg.symm); clear hbox hb hg)
  have z0 : w3.cell? ⟨gb, 0, none⟩ = some (.int .i32 x.r) := (blk_cell HX.out 0).trans rfl
  have z1 : w3.cell? ⟨gb, 1, none⟩ = some (.int .i64 x.f) := (blk_cell HX.out 1).trans rfl
  have z2 : w3.cell? ⟨gb, 2, none⟩ = some (.int .i64 x.g) := (blk_cell HX.out 2).trans rfl
  have z3 : w3.cell? ⟨gb, 3, none⟩ = some (.int .i64 x.b) := (blk_cell HX.out 3).trans rfl
  have z4 : w3.cell? ⟨gb, 4, none⟩ = some (.int .i64 x.w) := (blk_cell HX.out 4).trans rfl
  go_wp2_with fail
  refine (PB.cell_May.calls k x.r x.f x.g x.b x.w m w3 (tabAt HT.out HB3.out) HM.out).mono ?_
  rintro e w2 ⟨rfl, hb2⟩
  have HB5 := Aside0.mk (below_step HB3.out hb2)
  have HX2 := Aside0.mk (blk_below HX.out hb2)
  clear hb2 z0 z1 z2 z3 z4 HX HB3
  have HG2 := Aside0.mk (HG.out.below HB5.out)
  have HNE := Aside0.mk (show gb ≠ b by have := HG.out.row.lt; have := HGE.out; omega)
  cases m with
  | false =>
    go_wp2
    rw [EO.out, Bool.false_and, if_neg (by decide)]
    first | (refine ⟨rfl, .tuple #[], results_none rfl _ _ _, ?_⟩; exact ⟨rfl, HG2.out.row, grown_of_none HB5.out⟩) | (go_end0; exact ⟨rfl, HG2.out.row, grown_of_none HB5.out⟩)
  | true =>
  have z4 : w2.cell? ⟨gb, 4, none⟩ = some (.int .i64 x.w) := (blk_cell HX2.out 4).trans rfl
  by_cases hw : x.w = 0
  case neg =>
    have hw2 : (x.w == 0) = false := beq_eq_false_iff_ne.2 hw
    rw [hw2] at EO
    go_wp2
    rw [EO.out, Bool.and_false, if_neg (by decide)]
    first | (refine ⟨rfl, .tuple #[], results_none rfl _ _ _, ?_⟩; exact ⟨rfl, HG2.out.row, grown_of_none HB5.out⟩) | (go_end0; exact ⟨rfl, HG2.out.row, grown_of_none HB5.out⟩)
  have hw2 : (x.w == 0) = true := beq_iff_eq.2 hw
  rw [hw2, Bool.true_and, if_pos rfl] at EO
  go_wp2
  have HGd := Aside0.mk (HG2.out.below (below_drew (Below.refl _ _)))
  have HXd := Aside0.mk (blk_below HX2.out (below_drew (Below.refl _ _)))
  obtain ⟨cap, k1, k2, _, _, c2⟩ := HGd.out.cells
  have hsm := HG2.out.small
  clear z4 HX2
  have keep : w2.drew.cell? ⟨gb, 0, none⟩ = some (.int .i32 x.r) ∧ w2.drew.cell? ⟨gb, 1, none⟩ = some (.int .i64 x.f) ∧ w2.drew.cell? ⟨gb, 2, none⟩ = some (.int .i64 x.g) ∧ w2.drew.cell? ⟨gb, 3, none⟩ = some (.int .i64 x.b) ∧ w2.drew.cell? ⟨gb, 4, none⟩ = some (.int .i64 x.w) ∧ w2.drew.cell? ⟨g, 2, none⟩ = some (.slice (some ⟨b, 0, none⟩) L.length cap) :=
    ⟨(blk_cell HXd.out 0).trans rfl, (blk_cell HXd.out 1).trans rfl, (blk_cell HXd.out 2).trans rfl, (blk_cell HXd.out 3).trans rfl, (blk_cell HXd.out 4).trans rfl, c2⟩
  have KEEP := Aside0.mk keep
  clear keep hw hw2
  go_region_held3 (fun w' => w'.cell? ⟨gb, 0, none⟩ = some (.int .i32 x.r) ∧ w'.cell? ⟨gb, 1, none⟩ = some (.int .i64 x.f) ∧ w'.cell? ⟨gb, 2, none⟩ = some (.int .i64 x.g) ∧ w'.cell? ⟨gb, 3, none⟩ = some (.int .i64 x.b) ∧ w'.cell? ⟨gb, 4, none⟩ = some (.int .i64 x.w) ∧ w'.cell? ⟨g, 2, none⟩ = some (.slice (some ⟨b, 0, none⟩) L.length cap))
    (first | exact KEEP.out | exact KEEP2.out)
    (first | (go_at_call 41; with_reducible refine (fill_calls0 HGd.out.row hsm x k1).mono ?_; rintro e w10 ⟨rfl, hRf, hgf⟩; have HRf := Aside0.mk hRf; have HGf := Aside0.mk hgf; clear hRf hgf; have KEEP2 := Aside0.mk (fillKeep HGd.out HXd.out HNE.out HGf.out c2)))
  go_wp2
  refine ⟨rfl, .tuple #[], results_none rfl _ _ _, ?_⟩
  have hr := HRf.out
  rw [EO.out]
  exact ⟨rfl, hr, grown_trans (grown_of_none (below_step HB5.out (below_drew (Below.refl _ _)))) HGf.out⟩
end Go.Proofs.YtcfndcjbgalnpaaDoor.Hand
namespace Go.Proofs.YtcfndcjbgalnpaaDoor.Hand
open Go.RowKit Go.Proofs.YtcfndcjbgalnpaaDoorW.PrintWords
theorem row_ok {r c : Nat} {L M : List C5} {n : Nat} (hmay : AllMay L) (hok : ∀ k, k < r → k ≠ n → RowOk (rowN c L k)) (hl : L.length = r * c) (hn : n < r) (hM : AllMay M) (hm : M.length = c) : GridOk r c (splice L (n * c) (mendL M)) := by
  have hle := place_le (c := c) hn
  have hsl : (splice L (n * c) (mendL M)).length = r * c := by rw [splice_length _ _ _ (by rw [mendL_length]; omega), hl]
  refine ⟨hmay.spl hM.mendL _, fun k hk => ?_⟩
  by_cases hkn : k = n
  · subst hkn
    have e : rowN c (splice L (k * c) (mendL M)) k = mendL M := by
      apply List.ext_getElem?
      intro j
      rcases Nat.lt_or_ge j c with hj | hj
      · rw [rowN_get hj, splice_get_in _ _ _ _ (by rw [mendL_length]; omega) (by rw [mendL_length]; omega)]
      · rw [List.getElem?_eq_none (by rw [rowN_len hsl hk]; exact hj), List.getElem?_eq_none (by rw [mendL_length]; omega)]
    rw [e]
    exact mend_ok M
  · rw [rowN_ext hsl hl hk hk (fun j hj => ?_)]
    · exact hok k hk hkn
    · refine splice_get_out _ _ _ _ (by rw [mendL_length]; omega) ?_
      rw [mendL_length, hm]
      rcases Nat.lt_or_gt_of_ne hkn with h1 | h1
      · exact Or.inl (place_lt h1 hj)
      · right
        have := place_le (n := n) (r := k) (c := c) h1
        omega
theorem GridOk.mend {r c : Nat} {L M : List C5} {n : Nat} (h : GridOk r c L) (hl : L.length = r * c) (hM : M.length = r * c) (hn : n < r) (hmay : AllMay M) (hfar : ∀ i, i < n * c ∨ n * c + c ≤ i → M[i]? = L[i]?) : GridOk r c (mendRow c M n) := by
  refine row_ok hmay (fun k hk hkn => ?_) hM hn (hmay.part _ _) (rowN_len hM hn)
  rw [rowN_ext hM hl hk hk (fun j hj => hfar _ ?_)]
  · exact h.ok k hk
  · rcases Nat.lt_or_gt_of_ne hkn with h1 | h1
    · exact Or.inl (place_lt h1 hj)
    · right
      have := place_le (n := n) (r := k) (c := c) h1
      omega
theorem rep_row (c m : Nat) (x : C5) (hx : x.w = 0) {l : List C5} (h : ∀ y ∈ l, y = x) : RowOk l := narrow_ok fun y hy => by rw [h y hy]; exact hx
theorem GridOk.rep {x : C5} (hx : MayC x) (hw : x.w = 0) (r c m : Nat) : GridOk r c (List.replicate m x) :=
  ⟨AllMay.rep hx m, fun n hn => rep_row c m x hw fun y hy => List.eq_of_mem_replicate (List.mem_of_mem_drop (List.mem_of_mem_take hy))⟩
theorem GridOk.put {r c : Nat} {L : List C5} (h : GridOk r c L) (hl : L.length = r * c) {n j : Nat} (hn : n < r) {x : C5} (hx : MayC x) : GridOk r c (putL c L n j x) := by
  unfold putL
  refine h.row hl hn ?_ (by rw [laid_length]; exact rowN_len hl hn)
  have hp := h.may.part (n * c) c
  unfold laid
  split
  · split
    · exact (hp.set _ hx).set _ (mayC_blank (mayC_iff.1 hx).1)
    · exact (hp.set _ hx).set _ (mayC_right hx)
  · exact hp.set _ hx
theorem GridOk.erase {r c : Nat} {L : List C5} (h : GridOk r c L) (hl : L.length = r * c) (row p q a0 a1 a2 : Int) {m : Bool} (hm : PB.cell_MayAttr.f a0 a1 a2 = some m) : GridOk r c (eraseG r c L row p q a2 m) := by
  unfold eraseG
  split
  · rename_i ho
    simp only [eraseOk, Bool.and_eq_true, decide_eq_true_eq] at ho
    obtain ⟨⟨⟨h1, h2⟩, h3⟩, rfl⟩ := ho
    obtain ⟨n, rfl⟩ := Int.eq_ofNat_of_zero_le h1
    obtain ⟨x, hx⟩ := Int.eq_ofNat_of_zero_le (show 0 ≤ max p 0 by omega)
    obtain ⟨y, hy⟩ := Int.eq_ofNat_of_zero_le (show 0 ≤ min q (c : Int) by omega)
    rw [hx, hy] at h3
    rw [hx, hy, Int.toNat_natCast, Int.toNat_natCast, Int.toNat_natCast]
    have hn : n < r := by omega
    have hle := place_le (c := c) hn
    have hfit : n * c + x + (List.replicate (y - x) (blankC a2)).length ≤ L.length := by rw [List.length_replicate]; omega
    unfold eraseL
    refine h.mend hl (by rw [splice_length _ _ _ hfit, hl]) hn (h.may.spl (AllMay.rep (mayC_blank hm) _) _) (fun i hi => splice_get_out _ _ _ _ hfit ?_)
    rw [List.length_replicate]
    omega
  · exact h
theorem may_up {L : List C5} (h : AllMay L) {x : C5} (hx : MayC x) (o len k : Nat) : AllMay (upL L o len k x) := (h.spl (h.part _ _) _).spl (AllMay.rep hx _) _
theorem may_down {L : List C5} (h : AllMay L) {x : C5} (hx : MayC x) (o len k : Nat) : AllMay (downL L o len k x) := (h.spl (h.part _ _) _).spl (AllMay.rep hx _) _
theorem GridOk.shift {r c : Nat} {L : List C5} (h : GridOk r c L) (hl : L.length = r * c) (row col d a0 a1 a2 : Int) {m : Bool} (hm : PB.cell_MayAttr.f a0 a1 a2 = some m) : GridOk r c (shiftG r c L row col d a2 m) := by
  unfold shiftG
  split
  · rename_i ho
    simp only [isB, Bool.and_eq_true, decide_eq_true_eq] at ho
    obtain ⟨⟨h1, h2, h3, h4⟩, rfl⟩ := ho
    obtain ⟨n, rfl⟩ := Int.eq_ofNat_of_zero_le h1
    obtain ⟨j, rfl⟩ := Int.eq_ofNat_of_zero_le h3
    rw [Int.toNat_natCast, Int.toNat_natCast]
    have hn : n < r := by omega
    have hle := place_le (c := c) hn
    unfold moveL
    split
    · obtain ⟨k, hk⟩ : ∃ k : Nat, (min d (c - j : Nat)).toNat = k := ⟨_, rfl⟩
      rw [hk]
      refine h.mend hl (by rw [downL_length _ (by omega) (by omega), hl]) hn (may_down h.may (mayC_blank hm) _ _ _) (fun i hi => ?_)
      rw [downL_get _ (by omega) (by omega)]
      rcases hi with hi | hi
      · rw [if_pos (by omega)]
      · rw [if_neg (by omega), if_neg (by omega), if_neg (by omega)]
    · obtain ⟨k, hk⟩ : ∃ k : Nat, (min (-d) (c - j : Nat)).toNat = k := ⟨_, rfl⟩
      rw [hk]
      refine h.mend hl (by rw [upL_length _ (by omega) (by omega), hl]) hn (may_up h.may (mayC_blank hm) _ _ _) (fun i hi => ?_)
      rw [upL_get _ (by omega) (by omega)]
      rcases hi with hi | hi
      · rw [if_pos (by omega)]
      · rw [if_neg (by omega), if_neg (by omega), if_neg (by omega)]
  · exact h
theorem rep_ok {c : Nat} {L : List C5} {n : Nat} {x : C5} (hx : x.w = 0) (h : ∀ j, j < c → L[n * c + j]? = some x) : RowOk (rowN c L n) := narrow_ok fun y hy => by
  obtain ⟨j, hj⟩ := List.mem_iff_getElem?.1 hy
  have hjc : j < c := by
    have h1 := (List.getElem?_eq_some_iff.1 hj).1
    unfold rowN at h1
    rw [List.length_take] at h1
    omega
  rw [rowN_get hjc, h j hjc] at hj
  rw [← Option.some.inj hj]
  exact hx
theorem scroll_ok_up {r c : Nat} {L : List C5} (h : GridOk r c L) (hl : L.length = r * c) {t hh k : Nat} (ht : t + hh ≤ r) (hk : k ≤ hh) {x : C5} (hx : MayC x) (hw : x.w = 0) : GridOk r c (upL L (t * c) (hh * c) (k * c) x) := by
  have e1 : t * c + hh * c ≤ L.length := by rw [hl, ← Nat.add_mul]; exact Nat.mul_le_mul_right c ht
  have e2 : k * c ≤ hh * c := Nat.mul_le_mul_right c hk
  have e3 : hh * c - k * c = (hh - k) * c := by rw [Nat.sub_mul]
  have hul : (upL L (t * c) (hh * c) (k * c) x).length = r * c := by rw [upL_length _ e1 e2, hl]
  refine ⟨may_up h.may hx _ _ _, fun n hn => ?_⟩
  have hg : ∀ j, j < c → (upL L (t * c) (hh * c) (k * c) x)[n * c + j]? = if n < t then L[n * c + j]? else if n < t + (hh - k) then L[(n + k) * c + j]? else if n < t + hh then some x else L[n * c + j]? := by
    intro j hj
    rw [upL_get x e1 e2, e3, ← Nat.add_mul, ← Nat.add_mul]
    have key : ∀ m, (n * c + j < m * c ↔ n < m) := fun m => by
      constructor
      · intro h1
        rcases Nat.lt_or_ge n m with h2 | h2
        · exact h2
        · have := Nat.mul_le_mul_right c h2
          omega
      · intro h1
        exact place_lt h1 hj
    simp only [key]
    rw [show n * c + j + k * c = (n + k) * c + j by rw [Nat.add_mul]; omega]
  by_cases c1 : n < t
  · rw [rowN_ext hul hl hn hn (fun j hj => by rw [hg j hj, if_pos c1])]
    exact h.ok n hn
  by_cases c2 : n < t + (hh - k)
  · rw [rowN_ext hul hl hn (show n + k < r by omega) (fun j hj => by rw [hg j hj, if_neg c1, if_pos c2])]
    exact h.ok _ (by omega)
  by_cases c3 : n < t + hh
  · exact rep_ok hw (fun j hj => by rw [hg j hj, if_neg c1, if_neg c2, if_pos c3])
  · rw [rowN_ext hul hl hn hn (fun j hj => by rw [hg j hj, if_neg c1, if_neg c2, if_neg c3])]
    exact h.ok n hn
theorem scroll_ok_down {r c : Nat} {L : List C5} (h : GridOk r c L) (hl : L.length = r * c) {t hh k : Nat} (ht : t + hh ≤ r) (hk : k ≤ hh) {x : C5} (hx : MayC x) (hw : x.w = 0) : GridOk r c (downL L (t * c) (hh * c) (k * c) x) := by
  have e1 : t * c + hh * c ≤ L.length := by rw [hl, ← Nat.add_mul]; exact Nat.mul_le_mul_right c ht
  have e2 : k * c ≤ hh * c := Nat.mul_le_mul_right c hk
  have hul : (downL L (t * c) (hh * c) (k * c) x).length = r * c := by rw [downL_length _ e1 e2, hl]
  refine ⟨may_down h.may hx _ _ _, fun n hn => ?_⟩
  have hg : ∀ j, j < c → (downL L (t * c) (hh * c) (k * c) x)[n * c + j]? = if n < t then L[n * c + j]? else if n < t + k then some x else if n < t + hh then L[(n - k) * c + j]? else L[n * c + j]? := by
    intro j hj
    rw [downL_get x e1 e2, ← Nat.add_mul, ← Nat.add_mul]
    have key : ∀ m, (n * c + j < m * c ↔ n < m) := fun m => by
      constructor
      · intro h1
        rcases Nat.lt_or_ge n m with h2 | h2
        · exact h2
        · have := Nat.mul_le_mul_right c h2
          omega
      · intro h1
        exact place_lt h1 hj
    simp only [key]
    by_cases c1 : n < t
    · rw [if_pos c1, if_pos c1]
    by_cases c2 : n < t + k
    · rw [if_neg c1, if_neg c1, if_pos c2, if_pos c2]
    rw [show n * c + j - k * c = (n - k) * c + j by
      have := Nat.mul_le_mul_right c (show k ≤ n by omega)
      rw [Nat.sub_mul]; omega]
  by_cases c1 : n < t
  · rw [rowN_ext hul hl hn hn (fun j hj => by rw [hg j hj, if_pos c1])]
    exact h.ok n hn
  by_cases c2 : n < t + k
  · exact rep_ok hw (fun j hj => by rw [hg j hj, if_neg c1, if_pos c2])
  by_cases c3 : n < t + hh
  · rw [rowN_ext hul hl hn (show n - k < r by omega) (fun j hj => by rw [hg j hj, if_neg c1, if_neg c2, if_pos c3])]
    exact h.ok _ (by omega)
  · rw [rowN_ext hul hl hn hn (fun j hj => by rw [hg j hj, if_neg c1, if_neg c2, if_neg c3])]
    exact h.ok n hn
theorem GridOk.scroll {r c : Nat} {L : List C5} (h : GridOk r c L) (hl : L.length = r * c) (top bot d a0 a1 a2 : Int) {m : Bool} (hm : PB.cell_MayAttr.f a0 a1 a2 = some m) : GridOk r c (scrollG r c L top bot d a2 m) := by
  unfold scrollG
  split
  · rename_i ho
    simp only [scrollOk, Bool.and_eq_true, decide_eq_true_eq] at ho
    obtain ⟨⟨⟨h1, h2⟩, h3⟩, rfl⟩ := ho
    unfold scrollL
    split
    · exact scroll_ok_up h hl (by omega) (by omega) (mayC_blank hm) rfl
    · exact scroll_ok_down h hl (by omega) (by omega) (mayC_blank hm) rfl
  · exact h
theorem GridOk.fill {r c : Nat} {L : List C5} (h : GridOk r c L) {x : C5} {m : Bool} (hm : PB.cell_May.f 9 x.r x.f x.g x.b x.w = some m) : GridOk r c (fillG L x m) := by
  unfold fillG
  split
  · rename_i ho
    rw [Bool.and_eq_true] at ho
    obtain ⟨rfl, hw⟩ := ho
    exact GridOk.rep hm (beq_iff_eq.1 hw) _ _ _
  · exact h
theorem GridOk.resize {r c r2 c2 : Nat} {L : List C5} (h : GridOk r c L) (hl : L.length = r * c) : ∀ m, m ≤ min r r2 → GridOk r2 c2 (resTo c r2 c2 L m)
  | 0, _ => GridOk.rep mayC_blank0 rfl _ _ _
  | m + 1, hm => by
    have ih := GridOk.resize (r2 := r2) (c2 := c2) h hl m (by omega)
    have hM := resTo_length (c2 := c2) (r2 := r2) hl m (by omega)
    have e1 := place_le (n := m) (r := r) (c := c) (by omega)
    have e2 := place_le (n := m) (r := r2) (c := c2) (by omega)
    have e3 : ((L.drop (m * c)).take (min c c2)).length = min c c2 := part_length L (m * c) (min c c2) (by omega)
    refine ih.mend hM (by rw [splice_length _ _ _ (by omega), hM]) (by omega) (ih.may.spl (h.may.part _ _) _) (fun i hi => splice_get_out _ _ _ _ (by omega) (by omega))
end Go.Proofs.YtcfndcjbgalnpaaDoor.Hand
namespace Go.Proofs.YtcfndcjbgalnpaaDoor.Hand
open Go.RowKit Go.Proofs.YtcfndcjbgalnpaaDoorW.PrintWords Go.Proofs.YtcfndcjbgalnpaaDoorW.PrintLast
structure O9 where
  kd : Int
  row : Int
  col : Int
  n : Int
  x : C5
def kO : Kd O9 := Kd.iso (Kd.pair (Kd.int .i64) (Kd.pair (Kd.int .i64) (Kd.pair (Kd.int .i64) (Kd.pair (Kd.int .i64) (Kd.pair (Kd.int .i32) (Kd.pair (Kd.pair (Kd.int .i64) (Kd.pair (Kd.int .i64) (Kd.int .i64))) (Kd.int .i64))))))) (fun o => (o.kd, o.row, o.col, o.n, o.x.r, (o.x.f, o.x.g, o.x.b), o.x.w))
def O9.vs (o : O9) : List Value := [.int .i64 o.kd, .int .i64 o.row, .int .i64 o.col, .int .i64 o.n, .int .i32 o.x.r, .int .i64 o.x.f, .int .i64 o.x.g, .int .i64 o.x.b, .int .i64 o.x.w]
theorem kO_K {w : World} {o : O9} {cs : List Value} (h : kO.K w o cs) : cs = o.vs := by
  obtain ⟨_, _, rfl, h0, _, _, rfl, h1, _, _, rfl, h2, _, _, rfl, h3, _, _, rfl, h4, _, _, rfl, ⟨_, _, rfl, h5, _, _, rfl, h6, h7⟩, h8⟩ := h
  have h0 : _ = [_] := h0
  have h1 : _ = [_] := h1
  have h2 : _ = [_] := h2
  have h3 : _ = [_] := h3
  have h4 : _ = [_] := h4
  have h5 : _ = [_] := h5
  have h6 : _ = [_] := h6
  have h7 : _ = [_] := h7
  have h8 : _ = [_] := h8
  subst h0 h1 h2 h3 h4 h5 h6 h7 h8
  rfl
theorem at_op {w : World} {A : Option Addr} {m : Nat} {l : List O9} (h : Kd.C kO w A m l) {i : Nat} {o : O9} (ho : l[i]? = some o) : ∃ ad, A = some ad ∧ ∀ j v, o.vs[j]? = some v → w.cell? (ad.add (i * 9 + j)) = some v := by
  obtain ⟨h1, h2, h3⟩ := h
  have hi := (List.getElem?_eq_some_iff.1 ho).1
  obtain ⟨ad, e, hc⟩ := h3 (by omega)
  obtain ⟨cs, _, hk, hcell⟩ := hc i o ho
  rw [kO_K hk] at hcell
  exact ⟨ad, e, hcell⟩
theorem add_some (a : Addr) (k : Nat) : a.add (k + 1) = ⟨a.block, a.off + (k + 1), none⟩ := by
  unfold Addr.add
  split
  · next h => exact absurd h (by omega)
  · rfl
theorem at_op9 {w : World} {A : Option Addr} {m : Nat} {l : List O9} (h : Kd.C kO w A m l) {i : Nat} {o : O9} (ho : l[i]? = some o) : ∃ ad, A = some ad ∧ w.cell? (ad.add (i * 9)) = some (.int .i64 o.kd) ∧
    w.cell? ⟨(ad.add (i * 9)).block, (ad.add (i * 9)).off + 1, none⟩ = some (.int .i64 o.row) ∧ w.cell? ⟨(ad.add (i * 9)).block, (ad.add (i * 9)).off + 2, none⟩ = some (.int .i64 o.col) ∧
    w.cell? ⟨(ad.add (i * 9)).block, (ad.add (i * 9)).off + 3, none⟩ = some (.int .i64 o.n) ∧ w.cell? ⟨(ad.add (i * 9)).block, (ad.add (i * 9)).off + 4, none⟩ = some (.int .i32 o.x.r) ∧
    w.cell? ⟨(ad.add (i * 9)).block, (ad.add (i * 9)).off + 5, none⟩ = some (.int .i64 o.x.f) ∧ w.cell? ⟨(ad.add (i * 9)).block, (ad.add (i * 9)).off + 6, none⟩ = some (.int .i64 o.x.g) ∧
    w.cell? ⟨(ad.add (i * 9)).block, (ad.add (i * 9)).off + 7, none⟩ = some (.int .i64 o.x.b) ∧ w.cell? ⟨(ad.add (i * 9)).block, (ad.add (i * 9)).off + 8, none⟩ = some (.int .i64 o.x.w) := by
  obtain ⟨ad, e, hx⟩ := at_op h ho
  refine ⟨ad, e, hx 0 _ rfl, ?_, ?_, ?_, ?_, ?_, ?_, ?_, ?_⟩
  · rw [← add_some, Addr.add_add]; exact hx 1 _ rfl
  · rw [← add_some, Addr.add_add]; exact hx 2 _ rfl
  · rw [← add_some, Addr.add_add]; exact hx 3 _ rfl
  · rw [← add_some, Addr.add_add]; exact hx 4 _ rfl
  · rw [← add_some, Addr.add_add]; exact hx 5 _ rfl
  · rw [← add_some, Addr.add_add]; exact hx 6 _ rfl
  · rw [← add_some, Addr.add_add]; exact hx 7 _ rfl
  · rw [← add_some, Addr.add_add]; exact hx 8 _ rfl
theorem op_one (o : O9) : ∀ q ∈ o.vs, q.oneCell' = true := by
  intro q h
  simp only [O9.vs, List.mem_cons, List.not_mem_nil, or_false] at h
  rcases h with rfl | rfl | rfl | rfl | rfl | rfl | rfl | rfl | rfl <;> rfl
theorem info_op : (Tryd.prog.info? 47).map (·.size) = some 9 := by kernel_rfl
@[reducible] def opO (o : O9) : Obj := .cells #[.int .i64 o.kd, .int .i64 o.row, .int .i64 o.col, .int .i64 o.n, .int .i32 o.x.r, .int .i64 o.x.f, .int .i64 o.x.g, .int .i64 o.x.b, .int .i64 o.x.w] 47 (0, 0)
section
variable {ops : Array Oper} {rest : List Oper} {o : Oper} {a : Act} {Q : Exit → Act → World → Prop} {W : World}
theorem store_op {g : Nat} {cs : Array Value} (hB : W.heap[g]? = some (.cells cs 47 (0, 0))) (hcs : cs.size = 9) (c : O9) (t : TypeId) (p x : Operand) (hN : o.dst = none) (hgd : o.guard = none) (ho : o.op = .store t p x) (ht : (Tryd.prog.info? t).map (·.size) = some 9)
    (hp : a.eval p = .pointer (some ⟨g, 0, none⟩)) (hx : a.eval x = .agg #[.int .i64 c.kd, .int .i64 c.row, .int .i64 c.col, .int .i64 c.n, .int .i32 c.x.r, .int .i64 c.x.f, .int .i64 c.x.g, .int .i64 c.x.b, .int .i64 c.x.w])
    (h : ∀ w', w'.heap[g]? = some (opO c) → W.grownBy w' (some g) → wpList Tryd.prog ops Q rest a w') : wpList Tryd.prog ops Q (o :: rest) a W := by
  have hrun := run_store_run (P := Tryd.prog) t (.agg #[.int .i64 c.kd, .int .i64 c.row, .int .i64 c.col, .int .i64 c.n, .int .i32 c.x.r, .int .i64 c.x.f, .int .i64 c.x.g, .int .i64 c.x.b, .int .i64 c.x.w]) c.vs (o := 0) hB rfl ht (by show 0 + 9 ≤ cs.size; omega) (op_one c)
  obtain ⟨cur', h2, h3, h4⟩ := setCells_row c.vs 0 W cs hB (by show 0 + 9 ≤ cs.size; omega)
  have hl : cs.toList.length = 9 := by rw [Array.length_toList]; exact hcs
  have e : cur' = #[.int .i64 c.kd, .int .i64 c.row, .int .i64 c.col, .int .i64 c.n, .int .i32 c.x.r, .int .i64 c.x.f, .int .i64 c.x.g, .int .i64 c.x.b, .int .i64 c.x.w] := by
    apply Array.toList_inj.1
    rw [h4, List.take_zero, List.nil_append, List.drop_of_length_le (by show cs.toList.length ≤ 0 + 9; omega), List.append_nil]
    rfl
  rw [e] at h2
  refine wpList_plain hgd fun K hK => ?_
  unfold Oper.wp execOp
  simp only [ho, hp, hx, Sem.run_bind, Sem.run_pure, Result.andThen_ok, hrun]
  show K (a.put o.dst undef) _
  rw [hN]
  exact hK _ _ (h _ h2 (grown_setCells _ _ _ _))
end
theorem put_any {w : World} {base g b r c : Nat} {L : List C5} (h : GridAt w base g b r c L) (hT : TabW w) (row col : Int) (x : C5) (m : Bool) (hm : PB.cell_May.f 9 x.r x.f x.g x.b x.w = some m) :
    Calls Tryd.prog 12 #[.pointer (some ⟨g, 0, none⟩), .int .i64 row, .int .i64 col, .agg #[.int .i32 x.r, .int .i64 x.f, .int .i64 x.g, .int .i64 x.b, .int .i64 x.w]] w (fun e w' => e = .returned (.bool (putOk r c row col x m)) ∧ RowAt w' b (putG r c L row col x m) ∧ w.grownBy w' (some b)) := by
  cases ho : putOk r c row col x m with
  | false =>
    refine (put_no h hT row col x 9 m hm ho).mono ?_
    rintro e w1 ⟨rfl, hb⟩
    refine ⟨rfl, ?_, grown_of_none hb⟩
    unfold putG
    rw [ho, if_neg (by decide)]
    exact h.row.below hb
  | true =>
    have ho2 := ho
    simp only [putOk, isB, Bool.and_eq_true, decide_eq_true_eq] at ho2
    obtain ⟨⟨⟨h1, h2, h3, h4⟩, rfl⟩, h5⟩ := ho2
    obtain ⟨n, rfl⟩ := Int.eq_ofNat_of_zero_le h1
    obtain ⟨j, rfl⟩ := Int.eq_ofNat_of_zero_le h3
    refine (put_yes h hT n j (by omega) (by omega) x 9 hm (by simpa using h5)).mono ?_
    rintro e w1 ⟨rfl, hR, hg⟩
    refine ⟨rfl, ?_, hg⟩
    unfold putG
    rw [ho, if_pos rfl, Int.toNat_natCast, Int.toNat_natCast]
    exact hR
def resOk (rows cols : Int) : Bool := decide (1 ≤ rows ∧ rows ≤ 60 ∧ 1 ≤ cols ∧ cols ≤ 200)
theorem resize_any {w : World} {base g b r c : Nat} {L : List C5} (h : GridAt w base g b r c L) (rows cols : Int) :
    Calls Tryd.prog 17 #[.pointer (some ⟨g, 0, none⟩), .int .i64 rows, .int .i64 cols] w (fun e w' => ∃ v : Int, e = .returned (.int .i64 v) ∧ v = (if resOk rows cols = true then 0 else 1) ∧ ∃ b' r' c' L', GridAt w' base g b' r' c' L' ∧ w.grownBy w' (some g) ∧ (b' = b ∨ w.heap.size ≤ b') ∧
      (if resOk rows cols = true then r' = rows.toNat ∧ c' = cols.toNat ∧ L' = resTo c r' c' L (min r r') else r' = r ∧ c' = c ∧ L' = L)) := by
  by_cases hok : 1 ≤ rows ∧ rows ≤ 60 ∧ 1 ≤ cols ∧ cols ≤ 200
  · have e : resOk rows cols = true := decide_eq_true hok
    rw [e]
    obtain ⟨r2, rfl⟩ := Int.eq_ofNat_of_zero_le (show 0 ≤ rows by omega)
    obtain ⟨c2, rfl⟩ := Int.eq_ofNat_of_zero_le (show 0 ≤ cols by omega)
    refine (resize_yes h r2 c2 (by omega) (by omega) (by omega) (by omega)).mono ?_
    rintro e w1 ⟨rfl, b', hG, hb, hg⟩
    exact ⟨0, rfl, rfl, b', r2, c2, _, hG, hg, Or.inr hb, by rw [if_pos rfl]; exact ⟨rfl, rfl, rfl⟩⟩
  · have e : resOk rows cols = false := decide_eq_false hok
    rw [e]
    refine (resize_no h rows cols hok).mono ?_
    rintro e w1 ⟨rfl, hb⟩
    exact ⟨1, rfl, rfl, b, r, c, L, h.below hb, grown_of_none hb, Or.inl rfl, by rw [if_neg (by decide)]; exact ⟨rfl, rfl, rfl⟩⟩
theorem GridOk.resized {r c r' c' : Nat} {L L' : List C5} {rows cols : Int} (h : GridOk r c L) (hl : L.length = r * c) (hi : if resOk rows cols = true then r' = rows.toNat ∧ c' = cols.toNat ∧ L' = resTo c r' c' L (min r r') else r' = r ∧ c' = c ∧ L' = L) : GridOk r' c' L' := by
  split at hi
  · obtain ⟨rfl, rfl, rfl⟩ := hi
    exact h.resize hl _ (Nat.le_refl _)
  · obtain ⟨rfl, rfl, rfl⟩ := hi
    exact h
theorem pair_facts {r c : Nat} {L : List C5} (h : GridOk r c L) (hl : L.length = r * c) (hc : 1 ≤ c) {j : Nat} {x : C5} (hx : L[j]? = some x) :
    MayC x ∧ (x.w = 1 → j % c + 1 < c ∧ j + 1 < L.length ∧ ∃ y, L[j + 1]? = some y ∧ y.w = 2) ∧ (x.w = 2 → 0 < j % c ∧ ∃ i, j = i + 1 ∧ ∃ y, L[i]? = some y ∧ y.w = 1) := by
  have hj := (List.getElem?_eq_some_iff.1 hx).1
  have hp : j % c < c := Nat.mod_lt _ hc
  have hn : j / c < r := Nat.div_lt_of_lt_mul (by rw [Nat.mul_comm, ← hl]; exact hj)
  have hnp : j / c * c + j % c = j := by rw [Nat.mul_comm]; exact Nat.div_add_mod j c
  have hrl := rowN_len hl hn
  have ha := h.ok _ hn (j % c) (by rw [hrl]; exact hp)
  generalize j / c = n at *
  generalize hq : j % c = p at *
  have g0 : (rowN c L n).getD p z5 = x := by rw [List.getD_eq_getElem?_getD, rowN_get hp, hnp, hx]; rfl
  refine ⟨h.may x (List.mem_of_getElem? hx), fun hw => ?_, fun hw => ?_⟩
  · unfold aloneL at ha
    rw [g0, hw, hrl] at ha
    simp only [beq_self_eq_true, Bool.true_and, Bool.or_eq_false_iff] at ha
    obtain ⟨⟨h1, h2⟩, _⟩ := ha
    have h3 : p + 1 < c := by
      have := beq_eq_false_iff_ne.1 h1
      omega
    have h4 := place_le (c := c) hn
    have h5 : j + 1 < L.length := by omega
    refine ⟨h3, h5, L[j + 1], List.getElem?_eq_getElem h5, ?_⟩
    rw [List.getD_eq_getElem?_getD, rowN_get h3, show n * c + (p + 1) = j + 1 by omega, List.getElem?_eq_getElem h5] at h2
    simpa using h2
  · unfold aloneL at ha
    rw [g0, hw, hrl] at ha
    have e2 : ((2 : Int) == 1) = false := rfl
    rw [e2, Bool.false_and, Bool.false_or] at ha
    simp only [beq_self_eq_true, Bool.true_and, Bool.or_eq_false_iff] at ha
    obtain ⟨h1, h2⟩ := ha
    have h3 : p ≠ 0 := beq_eq_false_iff_ne.1 h1
    refine ⟨by omega, j - 1, by omega, L[j - 1]'(by omega), List.getElem?_eq_getElem (by omega), ?_⟩
    rw [List.getD_eq_getElem?_getD, rowN_get (by omega), show n * c + (p - 1) = j - 1 by omega, List.getElem?_eq_getElem (by omega)] at h2
    simpa using h2
theorem rem_wrap (j c : Nat) (hc : 1 ≤ c) (h : c ≤ 200) : IntKind.i64.wrap ((j : Int) % (c : Int)) = (j : Int) % (c : Int) := by
  rw [i64_w, ← Int.natCast_emod]
  have := Nat.mod_lt j hc
  generalize j % c = q at *
  unfold wrap64
  omega
theorem eraseG_length {r c : Nat} {L : List C5} (hl : L.length = r * c) (row p q a2 : Int) (m : Bool) : (eraseG r c L row p q a2 m).length = L.length := by
  unfold eraseG
  split
  · rename_i ho
    simp only [eraseOk, Bool.and_eq_true, decide_eq_true_eq] at ho
    obtain ⟨⟨⟨h1, h2⟩, h3⟩, rfl⟩ := ho
    obtain ⟨n, rfl⟩ := Int.eq_ofNat_of_zero_le h1
    obtain ⟨x, hx⟩ := Int.eq_ofNat_of_zero_le (show 0 ≤ max p 0 by omega)
    obtain ⟨y, hy⟩ := Int.eq_ofNat_of_zero_le (show 0 ≤ min q (c : Int) by omega)
    rw [hx, hy] at h3
    rw [hx, hy, Int.toNat_natCast, Int.toNat_natCast, Int.toNat_natCast]
    have hle := place_le (n := n) (r := r) (c := c) (by omega)
    have hs : (splice L (n * c + x) (List.replicate (y - x) (blankC a2))).length = L.length := splice_length _ _ _ (by rw [List.length_replicate]; omega)
    unfold eraseL
    rw [mendRow_length (hs.trans hl) (by omega), hs]
  · rfl
theorem shiftG_length {r c : Nat} {L : List C5} (hl : L.length = r * c) (row col d a2 : Int) (m : Bool) : (shiftG r c L row col d a2 m).length = L.length := by
  unfold shiftG
  split
  · rename_i ho
    simp only [isB, Bool.and_eq_true, decide_eq_true_eq] at ho
    obtain ⟨⟨h1, h2, h3, h4⟩, rfl⟩ := ho
    obtain ⟨n, rfl⟩ := Int.eq_ofNat_of_zero_le h1
    obtain ⟨j, rfl⟩ := Int.eq_ofNat_of_zero_le h3
    rw [Int.toNat_natCast, Int.toNat_natCast]
    have hle := place_le (n := n) (r := r) (c := c) (by omega)
    unfold moveL
    split
    · have hs := downL_length (L := L) (o := n * c + j) (len := c - j) (k := (min d (c - j : Nat)).toNat) (blankC a2) (by omega) (by omega)
      rw [mendRow_length (hs.trans hl) (by omega), hs]
    · have hs := upL_length (L := L) (o := n * c + j) (len := c - j) (k := (min (-d) (c - j : Nat)).toNat) (blankC a2) (by omega) (by omega)
      rw [mendRow_length (hs.trans hl) (by omega), hs]
  · rfl
theorem scrollG_length {r c : Nat} {L : List C5} (hl : L.length = r * c) (top bot d a2 : Int) (m : Bool) : (scrollG r c L top bot d a2 m).length = L.length := by
  unfold scrollG
  split
  · rename_i ho
    simp only [scrollOk, Bool.and_eq_true, decide_eq_true_eq] at ho
    obtain ⟨⟨⟨h1, h2⟩, h3⟩, rfl⟩ := ho
    obtain ⟨t, ht⟩ : ∃ t, top.toNat = t := ⟨_, rfl⟩
    obtain ⟨h, hh⟩ : ∃ h, (bot + 1 - top).toNat = h := ⟨_, rfl⟩
    rw [ht, hh]
    have e1 : t * c + h * c ≤ L.length := by rw [hl, ← Nat.add_mul]; exact Nat.mul_le_mul_right c (by omega)
    unfold scrollL
    split
    · exact upL_length _ e1 (Nat.mul_le_mul_right c (by omega))
    · exact downL_length _ e1 (Nat.mul_le_mul_right c (by omega))
  · rfl
theorem fillG_length (L : List C5) (x : C5) (m : Bool) : (fillG L x m).length = L.length := by
  unfold fillG
  split
  · exact List.length_replicate ..
  · rfl
theorem GridOk.putG {r c : Nat} {L : List C5} (h : GridOk r c L) (hl : L.length = r * c) (row col : Int) (x : C5) {m : Bool} (hm : PB.cell_May.f 9 x.r x.f x.g x.b x.w = some m) : GridOk r c (putG r c L row col x m) := by
  unfold Hand.putG
  split
  · rename_i ho
    simp only [putOk, isB, Bool.and_eq_true, decide_eq_true_eq] at ho
    obtain ⟨⟨⟨h1, h2, h3, h4⟩, rfl⟩, h5⟩ := ho
    exact h.put hl (by omega) hm
  · exact h
end Go.Proofs.YtcfndcjbgalnpaaDoor.Hand
namespace Go.Proofs.YtcfndcjbgalnpaaDoor.Hand
open Go.RowKit Go.Proofs.YtcfndcjbgalnpaaDoorW.PrintWords Go.Proofs.YtcfndcjbgalnpaaDoorW.PrintLast
set_option maxRecDepth 100000 in
set_option maxHeartbeats 8000000 in
theorem gridPairs_calls {w : World} (hT : TabW w) (rows cols : Int) (A : Option Addr) (cap : Nat) (l : List O9) (hC : Kd.C kO w A l.length l) :
    Calls Tryd.prog 7 #[.int .i64 rows, .int .i64 cols, .slice A l.length cap] w (fun e w' => e = .returned (.bool true) ∧ Below w.heap.size w w') := by
  have HT := Aside0.mk hT
  have HC := Aside0.mk hC
  clear hT hC
  have last : ∀ W, Below w.heap.size w W → Calls Tryd.prog 9 #[] W (fun e w' => e = .returned (.bool true) ∧ Below w.heap.size w w') := fun W h => (first_calls (tabAt HT.out h)).mono (by rintro e w' ⟨rfl, hb⟩; exact ⟨rfl, below_step h hb⟩)
  have LAST := Aside0.mk last
  clear last
  go_enter Tryd.func7, Tryd.ntmps7
  go_wp2_with fail
  refine (LAST.out w (Below.refl _ _)).mono ?_
  rintro e w1 ⟨rfl, hb1⟩
  have HB1 := Aside0.mk hb1
  clear hb1
  by_cases hr : 1 ≤ rows ∧ rows ≤ 60 ∧ 1 ≤ cols ∧ cols ≤ 200
  case neg =>
    go_wp2_with fail
    refine (new_no rows cols hr).mono ?_
    rintro e w2 ⟨rfl, hb2⟩
    have HB2 := Aside0.mk (below_step HB1.out hb2)
    clear hb2
    go_wp2_with fail
    refine (LAST.out w2 HB2.out).mono ?_
    rintro e w3 ⟨rfl, hb3⟩
    go_wp2
    go_ret
    exact ⟨rfl, hb3⟩
  obtain ⟨r0, rfl⟩ := Int.eq_ofNat_of_zero_le (show 0 ≤ rows by omega)
  obtain ⟨c0, rfl⟩ := Int.eq_ofNat_of_zero_le (show 0 ≤ cols by omega)
  have hr1 : 1 ≤ r0 := by omega
  have hr2 : r0 ≤ 60 := by omega
  have hc1 : 1 ≤ c0 := by omega
  have hc2 : c0 ≤ 200 := by omega
  go_wp2_with fail
  refine (new_yes r0 c0 hr1 hr2 hc1 hc2).mono ?_
  rintro e w2 ⟨g, b0, rfl, hG2, hb2⟩
  have HB2 := Aside0.mk (below_step HB1.out hb2)
  have HG2 := Aside0.mk (GridAt.lower hG2 HB1.out.size)
  clear hb2 hG2 HB1 hr
  by_cases q1 : (l.length : Int) > 100
  · go_wp2_with fail
    refine (LAST.out w2 HB2.out).mono ?_
    rintro e w3 ⟨rfl, hb3⟩
    go_wp2
    go_ret
    exact ⟨rfl, hb3⟩
  have hl : l.length ≤ 100 := by omega
  have hd1 : decide ((100 : Int) < (l.length : Int)) = false := decide_eq_false (by omega)
  go_wp2
  (try simp only [hd1, Bool.or_false, Bool.false_or])
  clear hd1 q1
  go_loopw [9] (fun v9 wr => ∃ i : Nat, i ≤ l.length ∧ v9 = .int .i64 i ∧ ∃ b r c L, Aside0 (Below w.heap.size w wr) ∧ Aside0 (GridAt wr w.heap.size g b r c L) ∧ Aside0 (GridOk r c L)) (fun v9 _ => l.length - (intOf v9).toNat)
  case atStart => exact ⟨0, Nat.zero_le _, rfl, b0, r0, c0, _, HB2, HG2, ⟨GridOk.rep mayC_blank0 rfl _ _ _⟩⟩
  case round =>
    obtain ⟨i, hi1, rfl, b, r, c, L, HB3, HG3, OK3⟩ := hrel
    clear HB2 HG2
    by_cases ha : i < l.length
    · obtain ⟨o, ho⟩ : ∃ o, l[i]? = some o := ⟨_, List.getElem?_eq_getElem ha⟩
      obtain ⟨ad, rfl, x0, x1, x2, x3, x4, x5, x6, x7, x8⟩ := at_op9 (Kd.C_below HC.out HB3.out) ho
      clear ho
      go_upto_region 10 with (first
        | ((with_reducible refine gate_dst (N := 10) rfl ?_); refine box_event ?hg (N := 10) ?hd (cs := #[.int .i64 0, .int .i64 0, .int .i64 0, .int .i64 0, .int .i32 0, .int .i64 0, .int .i64 0, .int .i64 0, .int .i64 0]) (t := 47) ?hr ?_; (case hd => rfl); (case hg => rfl); (case hr => first | (go_simp; done) | (go_simp; rfl)); intro gx hg w11 hbox hb; have HX11 := Aside0.mk hbox; have HGX := Aside0.mk (Nat.le_of_eq hg.symm); have HG11 := Aside0.mk (HG3.out.below hb); have HB11 := Aside0.mk (below_step HB3.out hb); clear hbox hb hg)
        | ((with_reducible refine gate_store (t := 47) (p := 10) (v := .tmp 45) rfl ?_); refine store_op HX11.out rfl o 47 (.tmp 10) (.tmp 45) rfl rfl rfl info_op rfl rfl ?_; intro w12 hX12 hG12; have HX12 := Aside0.mk hX12; have HGG12 := Aside0.mk hG12; clear hX12 hG12))
      clear x0 x1 x2 x3 x4 x5 x6 x7 x8 HX11
      have HG12 := Aside0.mk (HG11.out.grown HGG12.out (fun e => by have h1 := HG3.out.blk.elim fun _ q => blk_lt q.1; have h2 := HGX.out; injection e with e; omega) (fun e => by have h1 := HG3.out.row.lt; have h2 := HGX.out; injection e with e; omega))
      have HB12 := Aside0.mk (below_grown_by HB11.out rfl HGG12.out (fun k hk => by have h1 := HB3.out.size; have h2 := HGX.out; injection hk with hk; omega))
      clear HG11 HB11 HGG12 HG3 HB3 HGX
      obtain ⟨m, hm⟩ := may_some o.x
      obtain ⟨m2, hm2⟩ := look_some o.x.f o.x.g o.x.b
      have HM := Aside0.mk hm
      have HM2 := Aside0.mk hm2
      clear hm hm2
      have c0 : w12.cell? ⟨gx, 0, none⟩ = some (.int .i64 o.kd) := (blk_cell HX12.out 0).trans rfl
      have c1 : w12.cell? ⟨gx, 1, none⟩ = some (.int .i64 o.row) := (blk_cell HX12.out 1).trans rfl
      have c2 : w12.cell? ⟨gx, 2, none⟩ = some (.int .i64 o.col) := (blk_cell HX12.out 2).trans rfl
      have c3 : w12.cell? ⟨gx, 3, none⟩ = some (.int .i64 o.n) := (blk_cell HX12.out 3).trans rfl
      have c4 : w12.cell? ⟨gx, 4, none⟩ = some (.int .i32 o.x.r) := (blk_cell HX12.out 4).trans rfl
      have c5 : w12.cell? ⟨gx, 5, none⟩ = some (.int .i64 o.x.f) := (blk_cell HX12.out 5).trans rfl
      have c6 : w12.cell? ⟨gx, 6, none⟩ = some (.int .i64 o.x.g) := (blk_cell HX12.out 6).trans rfl
      have c7 : w12.cell? ⟨gx, 7, none⟩ = some (.int .i64 o.x.b) := (blk_cell HX12.out 7).trans rfl
      have c8 : w12.cell? ⟨gx, 8, none⟩ = some (.int .i64 o.x.w) := (blk_cell HX12.out 8).trans rfl
      clear HX12
      go_upto_block 2 with fail
      go_cut [] from 36 to 201 (fun wx => ∃ b r c L, Aside0 (Below w.heap.size w wx) ∧ Aside0 (GridAt wx w.heap.size g b r c L) ∧ Aside0 (GridOk r c L))
      case first =>
        by_cases k0 : o.kd = 0
        · rw [k0]
          clear k0
          go_wp2_with fail
          refine (put_any HG12.out (tabAt HT.out HB12.out) o.row o.col o.x m HM.out).mono ?_
          rintro e w13 ⟨rfl, hR13, hg13⟩
          have HB13 := Aside0.mk (below_grown_by HB12.out rfl hg13 (fun k hk => by injection hk with hk; subst hk; exact HG12.out.bb))
          have HG13 := Aside0.mk (HG12.out.wrote hg13 hR13 (putG_length HG12.out.len o.row o.col o.x m))
          have OK13 := Aside0.mk (OK3.out.putG HG12.out.len o.row o.col o.x HM.out)
          clear hR13 hg13
          clear HG12 HB12 OK3
          go_wp2_with fail
          go_meet
          case rel => exact ⟨_, _, _, _, HB13, HG13, OK13⟩
        · have kb0 : (o.kd == 0) = false := beq_eq_false_iff_ne.2 k0
          clear k0
          by_cases k1 : o.kd = 1
          · rw [k1]
            clear k1
            go_wp2_with fail
            refine (erase_calls HG12.out o.row o.col o.n o.x.f o.x.g o.x.b m2 HM2.out).mono ?_
            rintro e w13 ⟨rfl, hR13, hg13⟩
            have HB13 := Aside0.mk (below_grown_by HB12.out rfl hg13 (fun k hk => by injection hk with hk; subst hk; exact HG12.out.bb))
            have HG13 := Aside0.mk (HG12.out.wrote hg13 hR13 (eraseG_length HG12.out.len o.row o.col o.n o.x.b m2))
            have OK13 := Aside0.mk (OK3.out.erase HG12.out.len o.row o.col o.n o.x.f o.x.g o.x.b HM2.out)
            clear hR13 hg13
            clear HG12 HB12 OK3
            go_wp2_with fail
            go_meet
            case rel => exact ⟨_, _, _, _, HB13, HG13, OK13⟩
          · have kb1 : (o.kd == 1) = false := beq_eq_false_iff_ne.2 k1
            clear k1
            by_cases k2 : o.kd = 2
            · rw [k2]
              clear k2
              go_wp2_with fail
              refine (shift_calls HG12.out o.row o.col o.n o.x.f o.x.g o.x.b m2 HM2.out).mono ?_
              rintro e w13 ⟨rfl, hR13, hg13⟩
              have HB13 := Aside0.mk (below_grown_by HB12.out rfl hg13 (fun k hk => by injection hk with hk; subst hk; exact HG12.out.bb))
              have HG13 := Aside0.mk (HG12.out.wrote hg13 hR13 (shiftG_length HG12.out.len o.row o.col o.n o.x.b m2))
              have OK13 := Aside0.mk (OK3.out.shift HG12.out.len o.row o.col o.n o.x.f o.x.g o.x.b HM2.out)
              clear hR13 hg13
              clear HG12 HB12 OK3
              go_wp2_with fail
              go_meet
              case rel => exact ⟨_, _, _, _, HB13, HG13, OK13⟩
            · have kb2 : (o.kd == 2) = false := beq_eq_false_iff_ne.2 k2
              clear k2
              by_cases k3 : o.kd = 3
              · rw [k3]
                clear k3
                go_wp2_with fail
                refine (scroll_calls HG12.out o.row o.col o.n o.x.f o.x.g o.x.b m2 HM2.out).mono ?_
                rintro e w13 ⟨rfl, hR13, hg13⟩
                have HB13 := Aside0.mk (below_grown_by HB12.out rfl hg13 (fun k hk => by injection hk with hk; subst hk; exact HG12.out.bb))
                have HG13 := Aside0.mk (HG12.out.wrote hg13 hR13 (scrollG_length HG12.out.len o.row o.col o.n o.x.b m2))
                have OK13 := Aside0.mk (OK3.out.scroll HG12.out.len o.row o.col o.n o.x.f o.x.g o.x.b HM2.out)
                clear hR13 hg13
                clear HG12 HB12 OK3
                go_wp2_with fail
                go_meet
                case rel => exact ⟨_, _, _, _, HB13, HG13, OK13⟩
              · have kb3 : (o.kd == 3) = false := beq_eq_false_iff_ne.2 k3
                clear k3
                by_cases k4 : o.kd = 4
                · rw [k4]
                  clear k4
                  go_wp2_with fail
                  refine (resize_any HG12.out o.row o.col).mono ?_
                  rintro e w13 ⟨v, rfl, hv, b', r', c', L', hG13, hg13, hbb, hi13⟩
                  have HB13 := Aside0.mk (below_grown_by HB12.out rfl hg13 (fun k hk => by injection hk with hk; subst hk; exact HG12.out.bg))
                  have OK13 := Aside0.mk (OK3.out.resized HG12.out.len hi13)
                  have HG13 := Aside0.mk hG13
                  clear hG13 hg13 hbb hi13 hv
                  clear HG12 HB12 OK3
                  go_wp2_with fail
                  go_meet
                  case rel => exact ⟨_, _, _, _, HB13, HG13, OK13⟩
                · have kb4 : (o.kd == 4) = false := beq_eq_false_iff_ne.2 k4
                  clear k4
                  by_cases k5 : o.kd = 5
                  · rw [k5]
                    clear k5
                    go_wp2_with fail
                    refine (gfill_calls HG12.out (tabAt HT.out HB12.out) o.x 9 m HM.out).mono ?_
                    rintro e w13 ⟨rfl, hR13, hg13⟩
                    have HB13 := Aside0.mk (below_grown_by HB12.out rfl hg13 (fun k hk => by injection hk with hk; subst hk; exact HG12.out.bb))
                    have HG13 := Aside0.mk (HG12.out.wrote hg13 hR13 (fillG_length L o.x m))
                    have OK13 := Aside0.mk (OK3.out.fill HM.out)
                    clear hR13 hg13
                    clear HG12 HB12 OK3
                    go_wp2_with fail
                    go_meet
                    case rel => exact ⟨_, _, _, _, HB13, HG13, OK13⟩
                  · have kb5 : (o.kd == 5) = false := beq_eq_false_iff_ne.2 k5
                    clear k5
                    go_wp2_with fail
                    go_meet
                    case rel => exact ⟨b, r, c, L, HB12, HG12, OK3⟩
      case rest =>
        obtain ⟨bz, rz, cz, Lz, HBz, HGz, OKz⟩ := hcut
        clear c0 c1 c2 c3 c4 c5 c6 c7 c8 HM HM2 HB12 HG12 OK3
        go_wp2_with fail
        refine (cells_calls HGz.out).mono ?_
        rintro e w14 ⟨b5, cap5, rfl, hc5, hm5, hbb5, hR5, hb5⟩
        have HB14 := Aside0.mk (below_step HBz.out hb5)
        have HG14 := Aside0.mk (HGz.out.below hb5)
        have HR14 := Aside0.mk hR5
        clear HBz HGz hR5 hb5 hbb5
        have hz1 := HG14.out.c1
        have hz2 := HG14.out.c2
        have hz3 := HG14.out.r1
        have hz4 := HG14.out.r2
        have hzl := HG14.out.small
        have hmul : IntKind.i64.wrap ((cz : Int) * (rz : Int)) = (Lz.length : Int) := wrap_mul (by rw [HG14.out.len, Nat.mul_comm]) (by omega)
        have hbe : ((Lz.length : Int) != (Lz.length : Int)) = false := by simp
        go_wp2_with fail
        refine (cols_calls HG14.out).mono ?_
        rintro e w15 ⟨rfl, rfl⟩
        go_wp2_with fail
        refine (rows_calls HG14.out).mono ?_
        rintro e w16 ⟨rfl, rfl⟩
        go_wp2_with fail
        refine (rows_calls HG14.out).mono ?_
        rintro e w17 ⟨rfl, rfl⟩
        go_wp2_with fail
        refine (rows_calls HG14.out).mono ?_
        rintro e w18 ⟨rfl, rfl⟩
        have hd1 : decide ((cz : Int) < 1) = false := decide_eq_false (by omega)
        have hd2 : decide (cz < 1) = false := decide_eq_false (by omega)
        have hd3 : decide ((200 : Int) < (cz : Int)) = false := decide_eq_false (by omega)
        have hd4 : decide (200 < cz) = false := decide_eq_false (by omega)
        have hd5 : decide ((rz : Int) < 1) = false := decide_eq_false (by omega)
        have hd6 : decide (rz < 1) = false := decide_eq_false (by omega)
        have hd7 : decide ((60 : Int) < (rz : Int)) = false := decide_eq_false (by omega)
        have hd8 : decide (60 < rz) = false := decide_eq_false (by omega)
        have hd9 : decide (cz = 0) = false := decide_eq_false (by omega)
        have hd10 : decide (rz = 0) = false := decide_eq_false (by omega)
        go_wp2
        (try simp only [hd1, hd2, hd3, hd4, hd5, hd6, hd7, hd8, hd9, hd10, Bool.or_false, Bool.false_or])
        clear hd1 hd2 hd3 hd4 hd5 hd6 hd7 hd8 hd9 hd10 hmul hbe
        go_loopw [13] (fun v13 wr => ∃ j : Nat, j ≤ Lz.length ∧ v13 = .int .i64 j ∧ Aside0 (Below w.heap.size w wr) ∧ Aside0 (GridAt wr w.heap.size g bz rz cz Lz) ∧ Aside0 (RowAt wr b5 Lz)) (fun v13 _ => Lz.length - (intOf v13).toNat)
        case atStart => exact ⟨0, Nat.zero_le _, rfl, HB14, HG14, HR14⟩
        case round =>
          obtain ⟨j, hj, rfl, HB20, HG20, HR20⟩ := hrel
          clear HB14 HG14 HR14
          by_cases hjl : j < Lz.length
          · skip
            obtain ⟨x, hx⟩ : ∃ x, Lz[j]? = some x := ⟨_, List.getElem?_eq_getElem hjl⟩
            obtain ⟨hmay, hp1, hp2⟩ := pair_facts OKz.out HG20.out.len hz1 hx
            have hrem := rem_wrap j cz hz1 hz2
            have hcz : cz ≠ 0 := by omega
            by_cases w1 : x.w = 1
            · obtain ⟨h1, h2, y, hy, hyw⟩ := hp1 w1
              have hre : ((j : Int) % (cz : Int) == (cz : Int) - 1) = false := beq_eq_false_iff_ne.2 (by rw [← Int.natCast_emod]; omega)
              have cy : wr.cell? ⟨b5, (j + 1) * 5 + 4, none⟩ = some (.int .i64 2) := by rw [Nat.mul_comm, ← hyw]; exact HR20.out.cell hy 4 (by omega)
              clear hy hyw h1
              have cj0 : wr.cell? ⟨b5, j * 5, none⟩ = some (.int .i32 x.r) := by rw [Nat.mul_comm]; exact HR20.out.cell hx 0 (by omega)
              have cj1 : wr.cell? ⟨b5, j * 5 + 1, none⟩ = some (.int .i64 x.f) := by rw [Nat.mul_comm]; exact HR20.out.cell hx 1 (by omega)
              have cj2 : wr.cell? ⟨b5, j * 5 + 2, none⟩ = some (.int .i64 x.g) := by rw [Nat.mul_comm]; exact HR20.out.cell hx 2 (by omega)
              have cj3 : wr.cell? ⟨b5, j * 5 + 3, none⟩ = some (.int .i64 x.b) := by rw [Nat.mul_comm]; exact HR20.out.cell hx 3 (by omega)
              have cj4 : wr.cell? ⟨b5, j * 5 + 4, none⟩ = some (.int .i64 1) := by rw [Nat.mul_comm]; rw [← w1]; exact HR20.out.cell hx 4 (by omega)
              have HMY := Aside0.mk (show PB.cell_May.f 9 x.r x.f x.g x.b 1 = some true from by rw [← w1]; exact hmay)
              clear hx hmay hp1 hp2 w1
              go_wp2_with fail
              refine (PB.cell_May.calls 9 x.r x.f x.g x.b 1 true wr (tabAt HT.out HB20.out) HMY.out).mono ?_
              rintro e w21 ⟨rfl, hb21⟩
              have HB21 := Aside0.mk (below_step HB20.out hb21)
              have HG21 := Aside0.mk (HG20.out.below hb21)
              have HR21 := Aside0.mk (HR20.out.below hb21)
              clear hb21 cj0 cj1 cj2 cj3 cj4 HB20 HG20 HR20
              go_wp2
              go_roundw
              case rel => exact ⟨j + 1, by omega, by go_num, HB21, HG21, HR21⟩
              case measure => simp [intOf]; omega
            by_cases w2 : x.w = 2
            · obtain ⟨h1, i', rfl, y, hy, hyw⟩ := hp2 w2
              have hre : (((i' : Int) + 1) % (cz : Int) == 0) = false := beq_eq_false_iff_ne.2 (by rw [← Int.natCast_one, ← Int.natCast_add, ← Int.natCast_emod]; omega)
              have hrem2 : IntKind.i64.wrap (((i' : Int) + 1) % (cz : Int)) = ((i' : Int) + 1) % (cz : Int) := by rw [← Int.natCast_one, ← Int.natCast_add]; exact rem_wrap (i' + 1) cz hz1 hz2
              have cy : wr.cell? ⟨b5, i' * 5 + 4, none⟩ = some (.int .i64 1) := by rw [Nat.mul_comm, ← hyw]; exact HR20.out.cell hy 4 (by omega)
              clear hy hyw h1
              have cj0 : wr.cell? ⟨b5, (i' + 1) * 5, none⟩ = some (.int .i32 x.r) := by rw [Nat.mul_comm]; exact HR20.out.cell hx 0 (by omega)
              have cj1 : wr.cell? ⟨b5, (i' + 1) * 5 + 1, none⟩ = some (.int .i64 x.f) := by rw [Nat.mul_comm]; exact HR20.out.cell hx 1 (by omega)
              have cj2 : wr.cell? ⟨b5, (i' + 1) * 5 + 2, none⟩ = some (.int .i64 x.g) := by rw [Nat.mul_comm]; exact HR20.out.cell hx 2 (by omega)
              have cj3 : wr.cell? ⟨b5, (i' + 1) * 5 + 3, none⟩ = some (.int .i64 x.b) := by rw [Nat.mul_comm]; exact HR20.out.cell hx 3 (by omega)
              have cj4 : wr.cell? ⟨b5, (i' + 1) * 5 + 4, none⟩ = some (.int .i64 2) := by rw [Nat.mul_comm]; rw [← w2]; exact HR20.out.cell hx 4 (by omega)
              have HMY := Aside0.mk (show PB.cell_May.f 9 x.r x.f x.g x.b 2 = some true from by rw [← w2]; exact hmay)
              clear hx hmay hp1 hp2 w2
              go_wp2_with fail
              refine (PB.cell_May.calls 9 x.r x.f x.g x.b 2 true wr (tabAt HT.out HB20.out) HMY.out).mono ?_
              rintro e w21 ⟨rfl, hb21⟩
              have HB21 := Aside0.mk (below_step HB20.out hb21)
              have HG21 := Aside0.mk (HG20.out.below hb21)
              have HR21 := Aside0.mk (HR20.out.below hb21)
              clear hb21 cj0 cj1 cj2 cj3 cj4 HB20 HG20 HR20
              go_wp2
              go_roundw
              case rel => exact ⟨i' + 1 + 1, by omega, by go_num, HB21, HG21, HR21⟩
              case measure => simp [intOf]; omega
            have wb1 : (x.w == 1) = false := beq_eq_false_iff_ne.2 w1
            have wb2 : (x.w == 2) = false := beq_eq_false_iff_ne.2 w2
            have cj0 : wr.cell? ⟨b5, j * 5, none⟩ = some (.int .i32 x.r) := by rw [Nat.mul_comm]; exact HR20.out.cell hx 0 (by omega)
            have cj1 : wr.cell? ⟨b5, j * 5 + 1, none⟩ = some (.int .i64 x.f) := by rw [Nat.mul_comm]; exact HR20.out.cell hx 1 (by omega)
            have cj2 : wr.cell? ⟨b5, j * 5 + 2, none⟩ = some (.int .i64 x.g) := by rw [Nat.mul_comm]; exact HR20.out.cell hx 2 (by omega)
            have cj3 : wr.cell? ⟨b5, j * 5 + 3, none⟩ = some (.int .i64 x.b) := by rw [Nat.mul_comm]; exact HR20.out.cell hx 3 (by omega)
            have cj4 : wr.cell? ⟨b5, j * 5 + 4, none⟩ = some (.int .i64 x.w) := by rw [Nat.mul_comm]; exact HR20.out.cell hx 4 (by omega)
            have HMY := Aside0.mk (show PB.cell_May.f 9 x.r x.f x.g x.b x.w = some true from hmay)
            clear hx hmay hp1 hp2 w1 w2
            go_wp2_with fail
            refine (PB.cell_May.calls 9 x.r x.f x.g x.b x.w true wr (tabAt HT.out HB20.out) HMY.out).mono ?_
            rintro e w21 ⟨rfl, hb21⟩
            have HB21 := Aside0.mk (below_step HB20.out hb21)
            have HG21 := Aside0.mk (HG20.out.below hb21)
            have HR21 := Aside0.mk (HR20.out.below hb21)
            clear hb21 cj0 cj1 cj2 cj3 cj4 HB20 HG20 HR20
            go_wp2
            go_roundw
            case rel => exact ⟨j + 1, by omega, by go_num, HB21, HG21, HR21⟩
            case measure => simp [intOf]; omega
          · obtain rfl : j = Lz.length := by omega
            go_wp2
            go_roundw
            case rel => exact ⟨i + 1, by omega, by go_num, bz, rz, cz, Lz, HB20, HG20, OKz⟩
            case measure => simp [intOf]; omega
    · obtain rfl : i = l.length := by omega
      go_wp2_with fail
      refine (LAST.out wr HB3.out).mono ?_
      rintro e w40 ⟨rfl, hb40⟩
      go_wp2
      go_ret
      exact ⟨rfl, hb40⟩
end Go.Proofs.YtcfndcjbgalnpaaDoor.Hand
namespace Go.Proofs.YtcfndcjbgalnpaaDoor.RowGridPairs
open Go.ChangeShapes Go.WideShapes Go.ChangeAt Go.RowKit
open Go.ChangeMaps (open_string shut_string)
open Go.Proofs.YtcfndcjbgalnpaaDoorW.PrintWords Go.Proofs.YtcfndcjbgalnpaaDoor.Opens
open Go.Proofs.YtcfndcjbgalnpaaDoor.Hand
set_option linter.unusedVariables false
set_option linter.unusedSimpArgs false
theorem ownK : ownKnob Tryd.prog.godebug = none := by kernel_rfl
theorem laidOut : laidOutB Tryd.prog = true := by kernel_rfl
theorem o47 : Opens Tryd.prog 47 kO (fun o => (Lit.int .i64 o.kd).wf = true ∧ (Lit.int .i64 o.row).wf = true ∧ (Lit.int .i64 o.col).wf = true ∧ (Lit.int .i64 o.n).wf = true ∧ (Lit.int .i32 o.x.r).wf = true ∧ ((Lit.int .i64 o.x.f).wf = true ∧ (Lit.int .i64 o.x.g).wf = true ∧ (Lit.int .i64 o.x.b).wf = true) ∧ (Lit.int .i64 o.x.w).wf = true) := o_map (f := fun o : O9 => (o.kd, o.row, o.col, o.n, o.x.r, (o.x.f, o.x.g, o.x.b), o.x.w)) (o_struct Tryd.underlying47 (by kernel_rfl) (f_cons rfl (by kernel_rfl) (o_int Tryd.underlying3) (f_cons rfl (by kernel_rfl) (o_int Tryd.underlying3) (f_cons rfl (by kernel_rfl) (o_int Tryd.underlying3) (f_cons rfl (by kernel_rfl) (o_int Tryd.underlying3) (f_last rfl (by kernel_rfl) (o_struct Tryd.underlying32 (by kernel_rfl) (f_cons rfl (by kernel_rfl) (o_int Tryd.underlying21) (f_cons rfl (by kernel_rfl) (o_struct Tryd.underlying23 (by kernel_rfl) (f_cons rfl (by kernel_rfl) (o_int Tryd.underlying3) (f_cons rfl (by kernel_rfl) (o_int Tryd.underlying3) (f_last rfl (by kernel_rfl) (o_int Tryd.underlying3))))) (f_last rfl (by kernel_rfl) (o_int Tryd.underlying3))))))))))) (fun p => ⟨p.1, p.2.1, p.2.2.1, p.2.2.2.1, ⟨p.2.2.2.2.1, p.2.2.2.2.2.1.1, p.2.2.2.2.2.1.2.1, p.2.2.2.2.2.1.2.2, p.2.2.2.2.2.2⟩⟩) (fun _ => rfl)
abbrev laid2 : List (String × DataW Unit) := [("tickertape/cell.wide", Rows.laid_tickertape_cell_wide), ("tickertape/cell.none", Rows.laid_tickertape_cell_none)]
set_option maxRecDepth 100000 in
theorem door_met (os : Os) (args : Array Value) : laidMetH Tryd.prog laid2 ((World.doorLaid Tryd.prog 400 os).forCall (fun _ _ => 0) ⟨#[], args, []⟩).memory :=
  laidMetH_of_parts3 (fuel := 8) (laidMet_of_run' 8 (by kernel_rfl) (by kernel_rfl)) (by kernel_rfl) (by kernel_rfl)
set_option maxRecDepth 100000 in
theorem lifted (os : Os) (started : os.Started) (H : Type) (enc : TypeId × Value → H) :
    ReturnsInHanded {} Tryd.checked os 7 .any (fun w args => (Rows.gridPairsSpec.pre enc Tryd.prog Tryd.f7 [] false w args ∧ laidMetH Tryd.prog laid2 w) ∧ sizedMet enc Tryd.prog Tryd.f7 (OpenSpec.ofChange Rows.gridPairsSpec) false w args)
      (Rows.gridPairsSpec.post enc Tryd.prog Tryd.f7 false true false false) := by
  refine returnsInHanded_of_change_and (C := Tryd.checked) (X := fun w _ => laidMetH Tryd.prog laid2 w) (fun _ _ _ hh h => h.of_heap hh) ownK started (by kernel_rfl) Tryd.func7
    (ChangeSpec.witness_shaped (enc := enc) (C := Tryd.checked) (os := os) (X := fun w _ => laidMetH Tryd.prog laid2 w) false (World.doorLaid Tryd.prog 400 os) #[.int .i64 0, .int .i64 0, .slice none 0 0] 8 rfl (World.shaped_of_RefB (by kernel_rfl) (by kernel_rfl)) (by kernel_rfl) (by kernel_rfl) (by kernel_rfl) (door_met os _)) ?_
  intro W base args ds gs before hval0 hW _ hsz0 hT _
  have hsz : (DataW.weightsEach Tryd.prog (Tryd.f7.params.toList ++ Rows.gridPairsSpec.plain.varTypes Tryd.prog) (ds ++ gs)).all (· ≤ reachBytes) = true := hsz0
  have hval : ∀ (j : Nat) t v, Tryd.f7.params[j]? = some t → args[j]? = some v → Value.okWide Tryd.prog W .any base t v := hval0
  have hW' := hW
  obtain ⟨p, q, hA0, hV, rfl, hfz, hnd⟩ := hW
  have hA : DataW.TrodAll enc Tryd.prog W 0 (fun _ => true) true Tryd.f7.params.toList args.toList ds p := hA0
  rw [Tryd.params7] at hA hval hsz
  obtain ⟨v0, vs0, d0, ds0, p0, q0, hargs, rfl, rfl, h0, r0⟩ := trodAll_cons hA
  obtain ⟨v1, vs1, d1, ds1, p1, q1, rfl, rfl, rfl, h1, r1⟩ := trodAll_cons r0
  obtain ⟨v2, vs2, d2, ds2, p2, q2, rfl, rfl, rfl, h2, r2⟩ := trodAll_cons r1
  obtain ⟨rfl, rfl, rfl⟩ := trodAll_nil r2
  obtain rfl : args = #[v0, v1, v2] := by cases args; simp_all
  obtain ⟨rfl, rfl⟩ := trodVars_none hV
  obtain ⟨a0, rfl, rfl, rfl, w0⟩ := open_int Tryd.underlying3 (hval 0 3 v0 rfl rfl) h0
  obtain ⟨a1, rfl, rfl, rfl, w1⟩ := open_int Tryd.underlying3 (hval 1 3 v1 rfl rfl) h1
  have k2 := h2
  have lt2 : ∀ x ∈ p2, x.block < W.heap.size := by obtain ⟨m, hm⟩ := k2; exact DataW.trod_lt m _ _ _ hm
  obtain ⟨l2, ⟨A2, c2, e2, hc2, hC2⟩, q2⟩ := open_arg (o_slice Tryd.underlying45 (by kernel_rfl) o47) h2
  obtain ⟨_, _, _, z2⟩ := okWide_slice Tryd.underlying45 (hval 2 45 v2 rfl rfl)
  obtain rfl : v2 = .slice A2 l2.length c2 := by subst z2; simpa [Value.cells] using e2
  have y2 := sized_any hsz (j := 2) (t := 45) rfl rfl Tryd.underlying45 h2
  clear hA0 hval0
  refine (gridPairs_calls (tabW_of hT) a0 a1 A2 c2 l2 hC2).mono fun e W' ⟨he, bel⟩ => ?_
  subst he
  exact ⟨_, rfl, _, _, _, [], _, [], hW', trodAll_mk1 (shut_bool Tryd.underlying4 _), (trodAll_cons_mk (shut_int Tryd.underlying3 w0) (trodAll_cons_mk (shut_int Tryd.underlying3 w1) (trodAll_cons_mk (Below.trod laidOut (by kernel_rfl) (of_decide_eq_true (by kernel_rfl)) k2 bel lt2) trodAll_mk0))), rfl, bel.frame _, fun h => by cases h⟩
theorem over : Rows.gridPairsRow.holds Tryd.pinned (OpenSpec.ofChange Rows.gridPairsSpec) :=
  OpenClaim.holds_of_wide 7 Tryd.f7 rfl rfl rfl rfl rfl rfl rfl ⟨rfl, rfl, rfl, rfl, rfl⟩ rfl rfl rfl rfl rfl (by kernel_rfl) Tryd.func7 (by kernel_rfl)
    (of_decide_eq_true (by kernel_rfl)) (by unfold Func.isWrapper; first | (rw [if_pos (by decide +kernel)]; kernel_rfl) | (rw [if_neg (by decide +kernel)]; exact ⟨rfl, rfl⟩))
    (fun os started H enc _ => lifted os started H enc)
theorem card : Rows.GridPairsCardSaid :=
  Claim7.holds_tied_plain_at .later [] [.widerDeep, .widerDeep] true (true, "ca0710d70087c425407d5f24a5c1d77675f1fa9d97279af84f4c8bf68714d07d") false
    over (fun _ h => by cases h) (by kernel_rfl) (fun _ h => by cases h) gridPairs_row_tie rfl ⟨rfl, rfl⟩ (by kernel_rfl) rfl
    (fun f fn hf hfn => by
      obtain rfl : f = 7 := Option.some.inj ((show Tryd.prog.funcNamed "tickertape/tiklaw7.GridPairs" = some 7 by kernel_rfl).symm.trans hf) |>.symm
      obtain rfl : fn = Tryd.f7 := (Option.some.inj (Tryd.func7.symm.trans hfn)).symm
      exact ⟨by kernel_rfl, fun j t ht => by
        rw [Tryd.params7] at ht
        have hm : t ∈ [3, 3, 45] := by simpa using Array.mem_of_getElem? ht
        have hall : ([3, 3, 45].all fun u => !Tryd.prog.wantsStandIn u) = true := by kernel_rfl
        exact (show Tryd.prog.wantsStandIn t = false by simpa using List.all_eq_true.1 hall t hm)⟩)
    (by kernel_rfl)
#print axioms card
end Go.Proofs.YtcfndcjbgalnpaaDoor.RowGridPairs
namespace Go.Proofs.YtcfndcjbgalnpaaDoor
theorem gridPairs_holds : Rows.GridPairsCardSaid := RowGridPairs.card
end Go.Proofs.YtcfndcjbgalnpaaDoor
