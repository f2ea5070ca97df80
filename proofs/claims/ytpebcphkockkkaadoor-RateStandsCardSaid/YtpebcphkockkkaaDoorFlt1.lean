/-
  Floats as words: NaNs, a float against itself, what dividing and multiplying give. No program.
-/
import Derived.RowKit
import Derived.Laws.Cover2
import Derived.Laws.FloatArith
namespace Go.Proofs.YtpebcphkockkkaaDoor.Hand
open Go.RowKit

abbrev dbl : Ieee.Format := Ieee.double
theorem dbl_sw : dbl.signWeight = 9223372036854775808 := by decide +kernel
theorem dbl_bin : dbl.binade = 4503599627370496 := by decide +kernel
theorem dbl_inf : dbl.infRung = 9218868437227405312 := by decide +kernel
theorem dbl_least : dbl.leastPlace = -1074 := by decide +kernel
/-- The word is a NaN. -/
def nanB (b : Nat) : Bool := decide (b % 9223372036854775808 > 9218868437227405312)
theorem read_def (b : Nat) : dbl.read b =
    if b % 9223372036854775808 < 4503599627370496 then .number (b / 9223372036854775808 % 2 == 1) (b % 9223372036854775808) (-1074)
    else if b % 9223372036854775808 < 9218868437227405312 then .number (b / 9223372036854775808 % 2 == 1) (4503599627370496 + b % 9223372036854775808 % 4503599627370496) (-1074 + (b % 9223372036854775808 / 4503599627370496 - 1 : Nat))
    else if b % 9223372036854775808 = 9218868437227405312 then .infinity (b / 9223372036854775808 % 2 == 1)
    else .nan (b / 9223372036854775808 % 2 == 1) (b % 9223372036854775808 - 9218868437227405312) := by
  unfold Ieee.Format.read
  rw [dbl_sw, dbl_bin, dbl_inf, dbl_least]
theorem read_nan {b : Nat} (h : nanB b = true) : ∃ s f, dbl.read b = .nan s f := by
  have h := of_decide_eq_true h
  rw [read_def, if_neg (by omega), if_neg (by omega), if_neg (by omega)]
  exact ⟨_, _, rfl⟩
theorem read_ok {b : Nat} (h : nanB b = false) : (∃ s m e, dbl.read b = .number s m e) ∨ ∃ s, dbl.read b = .infinity s := by
  have h := of_decide_eq_false h
  rw [read_def]
  by_cases h1 : b % 9223372036854775808 < 4503599627370496
  · rw [if_pos h1]; exact .inl ⟨_, _, _, rfl⟩
  · rw [if_neg h1]
    by_cases h2 : b % 9223372036854775808 < 9218868437227405312
    · rw [if_pos h2]; exact .inl ⟨_, _, _, rfl⟩
    · rw [if_neg h2, if_pos (by omega)]; exact .inr ⟨_, rfl⟩
theorem cmp_self (x : Int) : compare x x = Ordering.eq := by rw [Int.compare_eq_eq]
theorem ord_self (b : Nat) : (dbl.order b b != some .eq) = nanB b := by
  unfold Ieee.Format.order
  cases h : nanB b with
  | true =>
    obtain ⟨s, f, e⟩ := read_nan h
    rw [e]; rfl
  | false =>
    rcases read_ok h with ⟨s, m, k, e⟩ | ⟨s, e⟩
    · rw [e]
      show (some (compare _ _) != some Ordering.eq) = false
      rw [cmp_self]; rfl
    · rw [e]
      show (some (compare s.toNat s.toNat) != some Ordering.eq) = false
      cases s <;> rfl
theorem nearest_nan (neg : Bool) (mag : Nat) (place : Int) : nanB (dbl.nearest neg mag place) = false := by
  have hw : ∀ (n : Bool) (r : Nat), r ≤ 9218868437227405312 → nanB (dbl.word n r) = false := by
    intro n r hr
    unfold Ieee.Format.word nanB
    rw [dbl_sw]
    apply decide_eq_false
    cases n
    · rw [if_neg (by simp)]; omega
    · rw [if_pos rfl]; omega
  unfold Ieee.Format.nearest
  dsimp only
  split
  · exact hw _ _ (by omega)
  · refine hw _ _ ?_
    rw [dbl_inf]
    exact Nat.min_le_right _ _
theorem nearest_num {n : Int} : nanB (FloatKind.f64.nearest n) = false := nearest_nan _ _ _
/-- Dividing by what is no nought and no NaN gives a number or an infinity. -/
theorem div_some {x y : Nat} {s : Bool} {m : Nat} {e : Int} (hx : nanB x = false) (hy : dbl.read y = .number s m e) (hm : m ≠ 0) : ∃ r, dbl.div x y = some r ∧ nanB r = false := by
  unfold Ieee.Format.div
  rw [hy]
  rcases read_ok hx with ⟨s', m', k', e'⟩ | ⟨s', e'⟩
  · rw [e']
    simp only [Ieee.Datum.quotient, if_neg hm, Option.map_some]
    exact ⟨_, rfl, nearest_nan _ _ _⟩
  · rw [e']
    refine ⟨_, rfl, ?_⟩
    unfold Ieee.Format.write
    cases (s' ^^ s) <;> decide +kernel
theorem mul_some {x y : Nat} {s : Bool} {m : Nat} {e : Int} (hx : nanB x = false) (hy : dbl.read y = .number s m e) (hm : m ≠ 0) : ∃ r, dbl.mul x y = some r ∧ nanB r = false := by
  unfold Ieee.Format.mul
  rw [hy]
  rcases read_ok hx with ⟨s', m', k', e'⟩ | ⟨s', e'⟩
  · rw [e']
    exact ⟨_, rfl, nearest_nan _ _ _⟩
  · rw [e']
    simp only [Ieee.Datum.product, if_neg hm, Option.map_some]
    refine ⟨_, rfl, ?_⟩
    unfold Ieee.Format.write
    cases (s' ^^ s) <;> decide +kernel
end Go.Proofs.YtpebcphkockkkaaDoor.Hand
