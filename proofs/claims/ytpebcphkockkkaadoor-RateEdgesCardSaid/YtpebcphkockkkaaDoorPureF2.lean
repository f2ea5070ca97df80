/-
  The order of floats; what is left out of a whole number's float. No program.
-/
import Derived.Test.YtpebcphkockkkaaDoorPureF1
namespace Go.Proofs.YtpebcphkockkkaaDoor.Hand
open Go.RowKit Go.Proofs.YtpebcphkockkkaaDoorW.PrintWords Go.Proofs.YtpebcphkockkkaaDoorW.PrintLast Go.Proofs.YtpebcphkockkkaaDoorW.PrintMore Go.Proofs.YtpebcphkockkkaaDoor.PA Go.Proofs.YtpebcphkockkkaaDoor.PB Go.Proofs.YtpebcphkockkkaaDoor.PD Go.Proofs.YtpebcphkockkkaaDoor.PE Go.Proofs.YtpebcphkockkkaaDoor.PF
set_option linter.unusedSimpArgs false
set_option linter.unusedVariables false
set_option exponentiation.threshold 3000

def lb : Nat → Nat → Nat
  | 0, _ => 0
  | j + 1, n => if n % 2 = 0 then lb j (n / 2) + 1 else 0
theorem lb_le : ∀ j n, lb j n ≤ j
  | 0, _ => Nat.le_refl _
  | j + 1, n => by
    unfold lb
    have := lb_le j (n / 2)
    split <;> omega
theorem lb_ctz : ∀ j f n, j ≤ f → lb j n = min (Lib.ctzFrom f n) j
  | 0, _, _, _ => by simp [lb]
  | j + 1, f, n, h => by
    obtain ⟨g, rfl⟩ : ∃ g, f = g + 1 := ⟨f - 1, by omega⟩
    have ih := lb_ctz j g (n / 2) (by omega)
    unfold lb Lib.ctzFrom
    generalize Lib.ctzFrom g (n / 2) = c at *
    rw [ih]
    by_cases q : n % 2 = 0
    · rw [if_pos q, if_neg (by omega)]; omega
    · rw [if_neg q, if_pos (by omega)]; omega
theorem lb_by (n : Nat) : lb 20 n = byOf n := by
  have h := lb_ctz 20 64 n (by omega)
  rw [h]
  unfold byOf Lib.ctz
  by_cases q : n = 0
  · subst q; decide +kernel
  · rw [if_neg q]
theorem and63 (u : Nat) (h : u < 2 ^ 63) : u &&& 2 ^ 63 = 0 := by
  apply Nat.eq_of_testBit_eq
  intro i
  rw [Nat.testBit_and, Nat.testBit_two_pow]
  by_cases q : 63 = i
  · subst q; simp [Nat.testBit_lt_two_pow h]
  · simp [q]
theorem and63' (u : Nat) (h : 2 ^ 63 ≤ u) (h2 : u < 2 ^ 64) : u &&& 2 ^ 63 ≠ 0 := by
  intro e
  have h1 : (u &&& 2 ^ 63).testBit 63 = true := by
    rw [Nat.testBit_and, Nat.testBit_two_pow, Nat.testBit_eq_decide_div_mod_eq]
    have : u / 2 ^ 63 % 2 = 1 := by omega
    simp [this]
  rw [e] at h1
  simp at h1
theorem xor64 (u : Nat) (h : u < 2 ^ 64) : (2 ^ 64 - 1) ^^^ u = 2 ^ 64 - 1 - u := by
  apply Nat.eq_of_testBit_eq
  intro i
  rw [Nat.testBit_xor, Nat.testBit_two_pow_sub_one, Nat.sub_sub, Nat.add_comm, Nat.testBit_two_pow_sub_succ h]
  by_cases q : i < 64
  · simp [q]
  · have : u.testBit i = false := Nat.testBit_lt_two_pow (Nat.lt_of_lt_of_le h (Nat.pow_le_pow_right (by decide) (by omega)))
    simp [q, this]
theorem p63 : (2 : Nat) ^ 63 = 9223372036854775808 := by decide
theorem p64 : (2 : Nat) ^ 64 = 18446744073709551616 := by decide
/-- A word's place. -/
def rk (u : Nat) : Nat := if 9223372036854775808 ≤ u then 18446744073709551615 - u else u + 9223372036854775808
theorem and_bit {u : Nat} (h : u < 18446744073709551616) : (Go.bits .and .u64 (u : Int) 9223372036854775808 > 0) ↔ 9223372036854775808 ≤ u := by
  have e := u64_and_nat u 9223372036854775808 h (by decide)
  have e' : Go.bits .and .u64 (u : Int) 9223372036854775808 = ((u &&& 2 ^ 63 : Nat) : Int) := by rw [p63]; exact e
  rw [e']
  rcases Nat.lt_or_ge u (2 ^ 63) with q | q
  · rw [and63 u q]; rw [p63] at q; omega
  · have := and63' u q (by rw [p64]; exact h)
    rw [p63] at q; omega
theorem xor_all {u : Nat} (h : u < 18446744073709551616) : Go.bits .xor .u64 18446744073709551615 (u : Int) = ((18446744073709551615 - u : Nat) : Int) := by
  have e := u64_xor_nat 18446744073709551615 u (by decide) h
  refine e.trans ?_
  have := xor64 u (by rw [p64]; exact h)
  have e2 : (2 : Nat) ^ 64 - 1 = 18446744073709551615 := by decide
  rw [e2] at this
  rw [this]
theorem or_bit {u : Nat} (h : u < 9223372036854775808) : Go.bits .or .u64 (u : Int) 9223372036854775808 = ((u + 9223372036854775808 : Nat) : Int) := by
  have e := u64_or_nat u 9223372036854775808 (by omega) (by decide)
  refine e.trans ?_
  have e := Nat.two_pow_add_eq_or_of_lt (i := 63) (b := u) (by rw [p63]; exact h) 1
  rw [p63, Nat.mul_one] at e
  rw [Nat.or_comm, ← e, Nat.add_comm]
theorem rank_f {a : Nat} (h : a < 18446744073709551616) : rate_rank.f a = some ((rk (canonV a) : Nat) : Int) := by
  have hc := canon_lt h
  unfold rate_rank.f rate_Bits.f rk
  rw [Option.bind_some]
  by_cases q : 9223372036854775808 ≤ canonV a
  · rw [if_pos ((and_bit hc).2 q), if_pos q, xor_all hc]
  · rw [if_neg (fun h => q ((and_bit hc).1 h)), if_neg q, or_bit (by omega)]
theorem canon_ne {a : Nat} (h : nanB a = false) : canonV a = a ∧ a ≠ 9221120237041090560 := by
  unfold canonV
  rw [h]
  refine ⟨if_neg (by simp), ?_⟩
  rintro rfl
  exact absurd h (by decide +kernel)
theorem canon_nan {a : Nat} (h : nanB a = true) : canonV a = 9221120237041090560 := by
  unfold canonV; exact if_pos h
theorem rrank_f {a : Nat} (h : a < 18446744073709551616) : tikref1_rank.f a = some (if nanB a = true then 18446744073709551615 else ((rk (canonV a) : Nat) : Int)) := by
  have hc := canon_lt h
  unfold tikref1_rank.f tikref1_Bits.f tikref1_nan.f rk
  rw [if_pos h, Option.bind_some, Option.bind_some]
  cases hn : nanB a with
  | true => rw [canon_nan hn, if_pos (by decide), if_pos rfl]
  | false =>
    obtain ⟨e, hne⟩ := canon_ne hn
    rw [e] at hc ⊢
    rw [if_neg (by omega), if_neg (show ¬ (false = true) by decide)]
    by_cases q : 9223372036854775808 ≤ a
    · rw [if_pos (by omega), if_pos q, xor_all hc]
    · rw [if_neg (by omega), if_neg q, or_bit (by omega)]
def cmpV (x y : Int) : Int := if x < y then -1 else if x > y then 1 else 0
theorem order_f {a b : Nat} (ha : a < 18446744073709551616) (hb : b < 18446744073709551616) : rate_Order.f a b = some (cmpV (rk (canonV a) : Nat) (rk (canonV b) : Nat)) := by
  unfold rate_Order.f
  rw [rank_f ha, Option.bind_some, rank_f hb, Option.bind_some]
  unfold cmp_Compare_uint64.f cmp_isNaN_uint64.f cmpV
  simp only [Option.bind_some, bne_self_eq_false]
  rw [if_neg (by decide), if_neg (by decide)]
  split
  · rfl
  · split <;> rfl
theorem rk_num {a : Nat} (h : nanB a = false) (ha : a < 18446744073709551616) : rk (canonV a) ≤ 18442240474082181120 := by
  rw [(canon_ne h).1]
  have := of_decide_eq_false h
  unfold rk
  split <;> omega
theorem rk_nan {a : Nat} (h : nanB a = true) : rk (canonV a) = 18444492273895866368 := by
  rw [canon_nan h]; decide +kernel
theorem rorder_f {a b : Nat} (ha : a < 18446744073709551616) (hb : b < 18446744073709551616) : tikref1_Order.f a b = some (cmpV (rk (canonV a) : Nat) (rk (canonV b) : Nat)) := by
  unfold tikref1_Order.f
  rw [rrank_f ha, Option.bind_some, rrank_f hb, Option.bind_some]
  have key : ∀ x y : Int, (if x < y then some (-1 : Int) else if x > y then some 1 else some 0) = some (cmpV x y) := fun x y => by
    unfold cmpV; split
    · rfl
    · split <;> rfl
  rw [key]
  congr 1
  cases hn : nanB a with
  | true =>
    rw [rk_nan hn, if_pos rfl]
    cases hm : nanB b with
    | true => rw [rk_nan hm, if_pos rfl]; decide
    | false =>
      have := rk_num hm hb
      rw [if_neg (by decide)]
      unfold cmpV
      rw [if_neg (by omega), if_pos (by omega), if_neg (by omega), if_pos (by omega)]
  | false =>
    have h1 := rk_num hn ha
    rw [if_neg (by decide)]
    cases hm : nanB b with
    | true =>
      rw [rk_nan hm, if_pos rfl]
      unfold cmpV
      rw [if_pos (by omega), if_pos (by omega)]
    | false => rw [if_neg (by decide)]
end Go.Proofs.YtpebcphkockkkaaDoor.Hand
