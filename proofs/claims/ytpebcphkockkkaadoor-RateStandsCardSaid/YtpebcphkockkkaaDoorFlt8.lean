/-
  rate.Of's numbers: the float times 2 ^ 20, rounded, as a whole number. No program.
-/
import Derived.Test.YtpebcphkockkkaaDoorFlt7
namespace Go.Proofs.YtpebcphkockkkaaDoor.Hand
open Go.RowKit

theorem integral_even {m x : Nat} (h : x ≤ 1074) : (Ieee.Datum.number false m (-1074 + (x : Int))).integral .even = .number false (rne m (2 ^ (1074 - x))) 0 := by
  show Ieee.Datum.number false (Ieee.Toward.even.cut false (m <<< (-1074 + (x : Int)).toNat) (-(-1074 + (x : Int))).toNat) 0 = _
  have a1 : (-1074 + (x : Int)).toNat = 0 := by omega
  have a2 : (-(-1074 + (x : Int))).toNat = 1074 - x := by omega
  rw [cut_eq, a1, a2, Nat.shiftLeft_eq, Nat.pow_zero, Nat.mul_one]
/-- A whole number as a float, and back. -/
theorem nat_back {n : Nat} (h : n ≤ 1073741824) : Go.floatToIntVal .f64 (dbl.nearest false n 0) .u64 = some (n : Int) := by
  have hz : ∃ a, dbl.nearest false n 0 = a ∧ vl a / 2 ^ 1074 = n ∧ a < 9218868437227405312 := by
    rcases Nat.eq_zero_or_pos n with h0 | h0
    · subst h0
      exact ⟨0, by decide +kernel, by decide +kernel, by decide⟩
    · obtain ⟨a, e, va, _, a2⟩ := near_nat (n := n) (by omega) (by omega)
      rw [nearest_nat] at e
      exact ⟨a, e, by rw [va]; exact Nat.mul_div_cancel _ (Nat.two_pow_pos 1074), a2⟩
  obtain ⟨a, e, va, a2⟩ := hz
  rw [e]
  have := whole_pos (x := a) a2
  unfold Go.floatToIntVal
  show (match (dbl.read a).toInt .zero with | some n => if IntKind.u64.min ≤ n ∧ n ≤ IntKind.u64.max then some n else none | none => none) = _
  rw [this, va]
  refine if_pos ⟨?_, ?_⟩
  · show (0 : Int) ≤ n; omega
  · show (n : Int) ≤ 18446744073709551615; omega
theorem of_nums {b : Nat} (h : b ≤ 4652218415073722368) : ∃ y m x, dbl.mul b 4697254411347427328 = some y ∧ dbl.read y = .number false m (-1074 + (x : Int)) ∧ dbl.write ((Ieee.Datum.number false m (-1074 + (x : Int))).integral .even) = dbl.nearest false (nOf b) 0 := by
  rcases Nat.lt_or_ge b 4503599627370496 with g | g
  · have hn : nOf b = 0 := nOf_zero (by omega)
    have hy : ∃ y, dbl.mul b 4697254411347427328 = some y ∧ y ≤ 94575592174780416 := by
      rcases Nat.eq_zero_or_pos b with h0 | h0
      · subst h0; exact ⟨0, mul20_zero, by omega⟩
      · exact mul20_small h0 g
    obtain ⟨y, e, hy⟩ := hy
    have hx : ex y ≤ 20 := by unfold ex; omega
    refine ⟨y, mg y, ex y, e, read_pos (by omega), ?_⟩
    rw [integral_even (by omega), hn]
    have : rne (mg y) (2 ^ (1074 - ex y)) = 0 := by
      have h1 := mg_lt y
      have h2 : (2 : Nat) ^ 54 ≤ 2 ^ (1074 - ex y) := Nat.pow_le_pow_right (by decide) (by omega)
      have h3 : (2 : Nat) ^ 54 = 18014398509481984 := by decide
      unfold rne
      rw [Nat.div_eq_of_lt (by omega), Nat.mod_eq_of_lt (by omega), if_neg (by omega)]
    rw [this]; rfl
  · obtain ⟨e1, e2⟩ := up20 g
    have hx : ex b ≤ 1032 := by unfold ex; omega
    obtain ⟨x, ex'⟩ : ∃ x, x = ex b + 20 := ⟨_, rfl⟩
    refine ⟨_, mg b, x, mul20 g h, ?_, ?_⟩
    · rw [read_pos (by omega), e1, e2, ex']
    · rw [integral_even (by omega), ex', show 1074 - (ex b + 20) = 1054 - ex b by omega]; rfl
end Go.Proofs.YtpebcphkockkkaaDoor.Hand
