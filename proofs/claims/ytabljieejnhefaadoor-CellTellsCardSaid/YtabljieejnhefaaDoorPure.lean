import Derived.Test.YtabljieejnhefaaDoorPBx4
import Derived.Test.YtabljieejnhefaaDoorPBx5
namespace Go.Proofs.YtabljieejnhefaaDoor.PureC
open Go.RowKit Go.Proofs.YtabljieejnhefaaDoorW.PrintWords Go.Proofs.YtabljieejnhefaaDoorW.PrintLast Go.Proofs.YtabljieejnhefaaDoorW.PrintMore
open Go.Proofs.YtabljieejnhefaaDoor.Hand Go.Proofs.YtabljieejnhefaaDoor.PB

def inr (a b c : Int) : Bool := decide (b ≤ a) && decide (a ≤ c)
theorem in_any (a b c : Int) : tikref6_in.f a b c = some (inr a b c) := by
  unfold tikref6_in.f inr
  split <;> simp_all
  omega
def colB (n : Int) : Bool := (decide (0 ≤ n) && decide (n ≤ 256)) || (decide (16777216 ≤ n) && decide (n < 33554432))
theorem col_any (n : Int) : cell_colour.f n = some (colB n) := by
  unfold cell_colour.f colB
  repeat' split
  all_goals first | (simp_all; done) | (simp_all; omega) | (simp; omega)
theorem colR_any (n : Int) : tikref6_colour.f n = some (colB n) := col_any n
def mayB (a b c : Int) : Bool := (decide (0 ≤ a) && decide (a ≤ 255)) && (colB b && colB c)
theorem may_any (a b c : Int) : cell_MayAttr.f a b c = some (mayB a b c) := by
  unfold cell_MayAttr.f mayB
  simp only [col_any, Option.bind_some]
  by_cases h1 : a ≥ 0
  · by_cases h2 : a ≤ 255
    · simp [h1, h2]; cases colB b <;> simp
    · simp [h2]
  · have : ¬ 0 ≤ a := h1
    simp [this]
theorem mayR_any (a b c : Int) : tikref6_MayAttr.f a b c = some (mayB a b c) := may_any a b c
theorem sign_any (a : Int) : tikref2_Sign.f a = some ((decide (0 ≤ a) && decide (a < 55296)) || (decide (57343 < a) && decide (a ≤ 1114111))) := by
  unfold tikref2_Sign.f
  repeat' split
  all_goals first | (simp_all; done) | (simp_all; omega) | (simp; omega)
theorem width_any (k : Nat) (a : Int) : tikref6_Width.f (k + 1) a = some (wd a) := by
  unfold tikref6_Width.f tikref6_Width.j0
  simp only [in_any, sign_any, Option.bind_some]
  have e1 : inL noneL a = (inr a 0 31 || (inr a 127 159 || (inr a 768 879 || (inr a 55296 57343 || false)))) := rfl
  have e2 : inL wideL a = (inr a 4352 4447 || (inr a 11904 42191 || (inr a 44032 55203 || (inr a 63744 64255 || (inr a 65072 65135 || (inr a 65280 65376 || (inr a 65504 65510 || (inr a 127744 128591 || (inr a 129280 129535 || (inr a 131072 262141 || false)))))))))) := rfl
  by_cases h0 : a < 0 ∨ a > 1114111 ∨ inr a 55296 57343 = true
  · have hs : ((decide (0 ≤ a) && decide (a < 55296)) || (decide (57343 < a) && decide (a ≤ 1114111))) = false := by
      simp only [inr, Bool.and_eq_true, decide_eq_true_eq] at h0
      rcases h0 with h | h | h
      · simp; omega
      · simp; omega
      · simp; omega
    have hw : wd a = 0 := by
      unfold wd
      rw [if_pos]
      rcases h0 with h | h | h
      · exact .inl h
      · exact .inr (.inl h)
      · right; right; rw [e1, h]; simp
    rw [hs, hw]
    simp
  · have hs : ((decide (0 ≤ a) && decide (a < 55296)) || (decide (57343 < a) && decide (a ≤ 1114111))) = true := by
      simp only [inr, Bool.and_eq_true, decide_eq_true_eq] at h0
      simp
      omega
    have h1 : ¬ a < 0 := fun h => h0 (.inl h)
    have h2 : ¬ a > 1114111 := fun h => h0 (.inr (.inl h))
    have h3 : inr a 55296 57343 = false := by
      cases h : inr a 55296 57343 with
      | false => rfl
      | true => exact absurd (.inr (.inr h)) h0
    unfold wd
    rw [hs, e1, e2, h3]
    simp only [h1, h2, false_or, if_true, Bool.or_false]
    generalize inr a 0 31 = x1
    generalize inr a 127 159 = x2
    generalize inr a 768 879 = x3
    generalize inr a 4352 4447 = y1
    generalize inr a 11904 42191 = y2
    generalize inr a 44032 55203 = y3
    generalize inr a 63744 64255 = y4
    generalize inr a 65072 65135 = y5
    generalize inr a 65280 65376 = y6
    generalize inr a 65504 65510 = y7
    generalize inr a 127744 128591 = y8
    generalize inr a 129280 129535 = y9
    generalize inr a 131072 262141 = y10
    cases x1
    · cases x2
      · cases x3
        · cases y1 <;> simp
          cases y2 <;> simp
          cases y3 <;> simp
          cases y4 <;> simp
          cases y5 <;> simp
          cases y6 <;> simp
          cases y7 <;> simp
          cases y8 <;> simp
          cases y9 <;> simp
          cases y10 <;> simp
        · simp
      · simp
    · simp
def cmayB (r f g b w : Int) : Bool := ((w == 0 && wd r == 1) || ((w == 1 && wd r == 2) || (w == 2 && r == 0))) && mayB f g b
theorem cmay_any (k : Nat) (r f g b w : Int) : cell_May.f (k + 1) r f g b w = some (cmayB r f g b w) := by
  have e1 : wrap64 (0 + 1) = 1 := by decide +kernel
  have e2 : wrap64 (1 + 1) = 2 := by decide +kernel
  unfold cell_May.f cell_May.j0 cmayB
  simp only [may_any, cell_Width.f, Option.bind_some]
  by_cases h0 : w = 0
  · subst h0
    rw [if_pos rfl, if_pos (beq_self_eq_true _), e1]
    by_cases h : wd r = 1 <;> simp [h]
  · rw [if_neg h0]
    by_cases h1 : w = 1
    · subst h1
      rw [if_pos (beq_self_eq_true _), e2]
      by_cases h : wd r = 2 <;> simp [h]
    · rw [if_neg (by simpa using h1)]
      by_cases h2 : w = 2
      · subst h2
        rw [if_pos rfl]
        by_cases h : r = 0 <;> simp [h]
      · simp [h0, h1, h2]
theorem cmayR_any (k : Nat) (r f g b w : Int) : tikref6_May.f (k + 1) r f g b w = some (cmayB r f g b w) := by
  unfold tikref6_May.f cmayB
  simp only [width_any, mayR_any, Option.bind_some]
  cases mayB f g b
  · simp
  · by_cases h0 : w = 0
    · subst h0
      by_cases h : wd r = 1 <;> simp [h]
    · by_cases h1 : w = 1
      · subst h1
        by_cases h : wd r = 2 <;> simp [h]
      · by_cases h2 : w = 2
        · subst h2
          simp
        · simp [h0, h1, h2]
theorem first_any (k : Nat) : tiklaw6_first.f (k + 1) = some true := by
  unfold tiklaw6_first.f
  simp only [cmay_any]
  decide +kernel
theorem tells_any (k : Nat) (a0 c0 c1 c2 c3 c4 : Int) : tiklaw6_CellTells.f (k + 1) a0 c0 c1 c2 c3 c4 = some true := by
  unfold tiklaw6_CellTells.f
  simp [first_any, width_any, cell_Width.f, cell_Blank.f, tikref6_Blank.f, may_any, mayR_any, cmay_any, cmayR_any]
theorem colours_any (k : Nat) (a b : Int) : tiklaw6_CellColours.f (k + 2) a b = some true := by
  have w0 : wd 120 = 1 := by decide +kernel
  have w1 : wd 32 = 1 := by decide +kernel
  have hj : ∀ x5 : Bool, x5 = colB a → tiklaw6_CellColours.j0 (k + 2) a b x5 = some true := by
    rintro x5 rfl
    simp only [tiklaw6_CellColours.j0, first_any, may_any, cmay_any, cell_Blank.f, Option.bind_some, if_true]
    have e1 : mayB 0 a 0 = colB a := by simp [mayB, colB]
    have e2 : mayB 0 0 a = colB a := by simp [mayB, colB]
    have e3 : mayB b 0 0 = (decide (0 ≤ b) && decide (b ≤ 255)) := by simp [mayB, colB]
    have e4 : cmayB 120 0 a 0 0 = colB a := by simp [cmayB, w0, e1]
    have e5 : cmayB 120 0 0 a 0 = colB a := by simp [cmayB, w0, e2]
    have e6 : cmayB 32 0 0 a 0 = colB a := by simp [cmayB, w1, e2]
    by_cases hb : 0 ≤ b <;> simp [e1, e2, e3, e4, e5, e6, hb]
  unfold tiklaw6_CellColours.f
  rw [first_any]
  simp only [Option.bind_some, if_true]
  by_cases h0 : a ≥ 0
  · rw [if_pos h0]
    by_cases h1 : a ≤ 256
    · rw [if_pos h1]; exact hj _ (by simp [colB]; omega)
    · rw [if_neg h1]
      by_cases h2 : a ≥ 16777216
      · rw [if_pos h2]; exact hj _ (by simp [colB]; rw [Bool.eq_iff_iff]; simp; omega)
      · rw [if_neg h2]; exact hj _ (by simp [colB]; omega)
  · rw [if_neg h0]
    by_cases h2 : a ≥ 16777216
    · omega
    · rw [if_neg h2]; exact hj _ (by simp [colB]; omega)
end Go.Proofs.YtabljieejnhefaaDoor.PureC
