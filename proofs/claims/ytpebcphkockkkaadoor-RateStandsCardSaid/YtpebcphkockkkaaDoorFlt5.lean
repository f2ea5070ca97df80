/-
  What rate.Of comes to, told in whole numbers. No program.
-/
import Derived.Test.YtpebcphkockkkaaDoorFlt4
import Derived.Lib.TrailingZeros
namespace Go.Proofs.YtpebcphkockkkaaDoor.Hand
open Go.RowKit

def byOf (n : Nat) : Nat := min (Lib.ctz 64 n) 20
def ofV (b : Nat) : Int × Int × Int :=
  if nanB b = true then (0, 0, 10) else if 9223372036854775808 ≤ b then (0, 0, 11) else if 4652218415073722368 < b then (0, 0, 1)
  else if nOf b = 0 ∧ 0 < b then (0, 0, 1) else (((nOf b / 2 ^ byOf (nOf b) : Nat) : Int), 2 ^ (20 - byOf (nOf b)), 0)
theorem byOf_le (n : Nat) : byOf n ≤ 20 := Nat.min_le_right _ _
theorem byOf_spec {n : Nat} (h0 : 0 < n) (h1 : n < 18446744073709551616) : ∃ m, n = 2 ^ byOf n * m ∧ (byOf n = 20 ∨ m % 2 = 1) := by
  obtain ⟨m, e, hlt⟩ := Lib.ctzFrom_spec 64 n h0 h1
  have hc : Lib.ctz 64 n = Lib.ctzFrom 64 n := if_neg (by omega)
  unfold byOf
  rw [hc]
  generalize Lib.ctzFrom 64 n = c at *
  rcases Nat.lt_or_ge c 20 with g | g
  · rw [Nat.min_eq_left (Nat.le_of_lt g)]
    exact ⟨2 * m + 1, e, .inr (by omega)⟩
  · rw [Nat.min_eq_right g]
    refine ⟨2 ^ (c - 20) * (2 * m + 1), ?_, .inl rfl⟩
    rw [← Nat.mul_assoc, ← Nat.pow_add, show 20 + (c - 20) = c by omega]; exact e
theorem least_parts {n : Nat} (h : n ≤ 1073741824) : ∃ k, k ≤ 20 ∧ 20 - byOf n = k ∧ n / 2 ^ byOf n ≤ 1024 * 2 ^ k ∧ (k = 0 ∨ (n / 2 ^ byOf n) % 2 = 1) ∧ n / 2 ^ byOf n * 2 ^ (20 - k) = n := by
  have hb := byOf_le n
  refine ⟨20 - byOf n, by omega, rfl, ?_, ?_, ?_⟩
  · rw [Nat.div_le_iff_le_mul_add_pred (Nat.two_pow_pos _)]
    have : 2 ^ byOf n * (1024 * 2 ^ (20 - byOf n)) = 1073741824 := by
      rw [Nat.mul_left_comm, ← Nat.pow_add, show byOf n + (20 - byOf n) = 20 by omega]
    omega
  · rcases Nat.eq_zero_or_pos n with h0 | h0
    · subst h0; left; decide +kernel
    · obtain ⟨m, e, h2⟩ := byOf_spec h0 (by omega)
      rcases h2 with h2 | h2
      · left; omega
      · right
        conv => lhs; lhs; lhs; rw [e]
        rw [Nat.mul_div_cancel_left _ (Nat.two_pow_pos _)]; exact h2
  · rw [show 20 - (20 - byOf n) = byOf n by omega]
    rcases Nat.eq_zero_or_pos n with h0 | h0
    · subst h0; rw [Nat.zero_div, Nat.zero_mul]
    · obtain ⟨m, e, _⟩ := byOf_spec h0 (by omega)
      conv => lhs; lhs; lhs; rw [e]
      rw [Nat.mul_div_cancel_left _ (Nat.two_pow_pos _), Nat.mul_comm]; exact e.symm
/-- Rounded in two steps, as the document does it. -/
theorem rne_parts (m d : Nat) (hd : 1 ≤ d) : rne m (2 ^ d) = m / 2 ^ d + (if m % 2 ^ d > 2 ^ (d - 1) ∨ (m % 2 ^ d = 2 ^ (d - 1) ∧ m / 2 ^ d % 2 = 1) then 1 else 0) := by
  unfold rne
  obtain ⟨c, rfl⟩ : ∃ c, d = c + 1 := ⟨d - 1, by omega⟩
  have : (2 : Nat) ^ (c + 1) = 2 * 2 ^ c := by rw [Nat.pow_succ]; omega
  rw [show c + 1 - 1 = c by omega]
  have e1 : 2 ^ (c + 1) < 2 * (m % 2 ^ (c + 1)) ↔ m % 2 ^ (c + 1) > 2 ^ c := by omega
  have e2 : 2 ^ (c + 1) = 2 * (m % 2 ^ (c + 1)) ↔ m % 2 ^ (c + 1) = 2 ^ c := by omega
  simp only [e1, e2]
theorem nOf_zero {r : Nat} (h : r < 4512606826625236992) : nOf r = 0 := by
  unfold nOf rne
  have h1 := mg_lt r
  have h2 : (2 : Nat) ^ 54 ≤ 2 ^ (1054 - ex r) := Nat.pow_le_pow_right (by decide) (by unfold ex; omega)
  have h3 : (2 : Nat) ^ 54 = 18014398509481984 := by decide
  rw [Nat.div_eq_of_lt (by omega), Nat.mod_eq_of_lt (by omega), if_neg (by omega)]
end Go.Proofs.YtpebcphkockkkaaDoor.Hand
