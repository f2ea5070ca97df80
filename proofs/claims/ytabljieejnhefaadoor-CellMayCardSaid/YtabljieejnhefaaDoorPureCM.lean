/-
  CellMay: a blank of what may be may be; a sign's width says where it may stand. No program.
-/
import Derived.Test.YtabljieejnhefaaDoorPCx3
namespace Go.Proofs.YtabljieejnhefaaDoor.PureM
open Go.RowKit Go.Proofs.YtabljieejnhefaaDoorW.PrintWords Go.Proofs.YtabljieejnhefaaDoorW.PrintLast Go.Proofs.YtabljieejnhefaaDoorW.PrintMore
open Go.Proofs.YtabljieejnhefaaDoor.Hand Go.Proofs.YtabljieejnhefaaDoor.PB Go.Proofs.YtabljieejnhefaaDoor.PC

def colB (n : Int) : Bool := (decide (0 ≤ n) && decide (n ≤ 256)) || (decide (16777216 ≤ n) && decide (n < 33554432))
theorem col_any (n : Int) : cell_colour.f n = some (colB n) := by
  unfold cell_colour.f colB
  repeat' split
  all_goals first | (simp_all; done) | (simp_all; omega) | (simp; omega)
def mayB (a b c : Int) : Bool := (decide (0 ≤ a) && decide (a ≤ 255)) && (colB b && colB c)
theorem may_any (a b c : Int) : cell_MayAttr.f a b c = some (mayB a b c) := by
  unfold cell_MayAttr.f mayB
  simp only [col_any, Option.bind_some]
  by_cases h1 : a ≥ 0
  · by_cases h2 : a ≤ 255
    · simp [h1, h2]; cases colB b <;> simp
    · simp [h2]
  · have : ¬ 0 ≤ a := h1
    simp [this]
def cmayB (r f g b w : Int) : Bool := ((w == 0 && wd r == 1) || ((w == 1 && wd r == 2) || (w == 2 && r == 0))) && mayB f g b
theorem cmay_any (k : Nat) (r f g b w : Int) : cell_May.f (k + 1) r f g b w = some (cmayB r f g b w) := by
  have e1 : wrap64 (0 + 1) = 1 := by decide +kernel
  have e2 : wrap64 (1 + 1) = 2 := by decide +kernel
  unfold cell_May.f cell_May.j0 cmayB
  simp only [may_any, cell_Width.f, Option.bind_some]
  by_cases h0 : w = 0
  · subst h0
    rw [if_pos rfl, if_pos (beq_self_eq_true _), e1]
    by_cases h : wd r = 1 <;> simp [h]
  · rw [if_neg h0]
    by_cases h1 : w = 1
    · subst h1
      rw [if_pos (beq_self_eq_true _), e2]
      by_cases h : wd r = 2 <;> simp [h]
    · rw [if_neg (by simpa using h1)]
      by_cases h2 : w = 2
      · subst h2
        rw [if_pos rfl]
        by_cases h : r = 0 <;> simp [h]
      · simp [h0, h1, h2]
theorem first_any (k : Nat) : tiklaw6_first.f (k + 1) = some true := by
  unfold tiklaw6_first.f
  simp only [cmay_any]
  decide +kernel
theorem wd_range (a : Int) : 0 ≤ wd a ∧ wd a ≤ 2 := by
  unfold wd
  repeat' split
  all_goals omega
theorem cellmay_any (k : Nat) (a0 p q s : Int) : tiklaw6_CellMay.f (k + 1) a0 p q s = some true := by
  obtain ⟨w0, w2⟩ := wd_range a0
  have w32 : wd 32 = 1 := by decide +kernel
  unfold tiklaw6_CellMay.f
  simp only [first_any, may_any, cmay_any, cell_Blank.f, cell_Width.f, Option.bind_some, if_true]
  cases hm : mayB p q s with
  | false =>
    rw [if_neg (by decide)]
    simp [cmayB, hm]
  | true =>
    have hb : mayB 0 0 s = true := by
      unfold mayB at hm ⊢
      simp only [Bool.and_eq_true] at hm ⊢
      exact ⟨by decide, by decide +kernel, hm.2.2⟩
    rw [if_pos rfl, if_pos (show wd a0 ≥ 0 from w0), if_pos w2]
    simp [cmayB, hm, hb, w32]
end Go.Proofs.YtabljieejnhefaaDoor.PureM
