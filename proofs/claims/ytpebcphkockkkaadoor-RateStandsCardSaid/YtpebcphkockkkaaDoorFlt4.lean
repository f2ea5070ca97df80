/-
  Floats: times 2 ^ 20; a float made whole; what rate.Of rounds to. No program.
-/
import Derived.Test.YtpebcphkockkkaaDoorFlt3
namespace Go.Proofs.YtpebcphkockkkaaDoor.Hand
open Go.RowKit

theorem prod_pos {x y : Nat} (hx : x < 9218868437227405312) (hy : y < 9218868437227405312) : (dbl.read x).product (dbl.read y) = some (.number false (mg x * mg y) (-1074 + (ex x : Int) + (-1074 + (ex y : Int)))) := by
  rw [read_num (r := x) (by omega) hx, read_num (r := y) (by omega) hy]
  have e1 : (x / 9223372036854775808 % 2 == 1) = false := by rw [Nat.div_eq_of_lt (by omega)]; rfl
  have e2 : (y / 9223372036854775808 % 2 == 1) = false := by rw [Nat.div_eq_of_lt (by omega)]; rfl
  rw [e1, e2]; rfl
theorem c20 : mg 4697254411347427328 = 4503599627370496 ∧ ex 4697254411347427328 = 1042 := by decide +kernel
theorem up20 {r : Nat} (h : 4503599627370496 ≤ r) : mg (r + 90071992547409920) = mg r ∧ ex (r + 90071992547409920) = ex r + 20 := by unfold mg ex; omega
/-- A normal float, times 2 ^ 20. -/
theorem mul20 {r : Nat} (h1 : 4503599627370496 ≤ r) (h2 : r ≤ 4652218415073722368) : dbl.mul r 4697254411347427328 = some (r + 90071992547409920) := by
  unfold Ieee.Format.mul
  rw [prod_pos (by omega) (by omega), c20.1, c20.2, Option.map_some]
  have hm : mg r * 4503599627370496 ≠ 0 := by have := mg_ge h1; omega
  refine congrArg some (near_exact _ 32 (ex r) (r + 90071992547409920) _ hm (by omega) (by omega) ?_)
  obtain ⟨e1, e2⟩ := up20 h1
  unfold vl
  rw [e1, e2, Nat.mul_assoc, Nat.mul_assoc, ← Nat.pow_add, ← pow52, ← Nat.pow_add]
  congr 2; omega
theorem mul20_zero : dbl.mul 0 4697254411347427328 = some 0 := by decide +kernel
theorem mul20_small {r : Nat} (h0 : 0 < r) (h1 : r < 4503599627370496) : ∃ y, dbl.mul r 4697254411347427328 = some y ∧ y ≤ 94575592174780416 := by
  unfold Ieee.Format.mul
  rw [prod_pos (by omega) (by omega), c20.1, c20.2, Option.map_some]
  refine ⟨_, rfl, ?_⟩
  obtain ⟨e1, e2⟩ := mg_sub h1
  rw [e1, e2]
  have hv : vl 94575592174780416 = 2 ^ 72 := by decide +kernel
  refine near_le _ 32 0 _ _ (by omega) (by omega) ?_
  rw [hv, Nat.pow_zero, Nat.mul_one, ← Nat.pow_add]
  have : (2 : Nat) ^ (72 + 32) = 4503599627370496 * 4503599627370496 := by decide +kernel
  rw [this]
  exact Nat.mul_le_mul_right _ (Nat.le_of_lt h1)
theorem cut_zero (neg : Bool) (n drop : Nat) : Ieee.Toward.zero.cut neg n drop = n / 2 ^ drop := by
  unfold Ieee.Toward.cut
  dsimp only
  rw [Nat.shiftLeft_eq, Nat.one_mul]
  show n / 2 ^ min drop (n.log2 + 2) + 0 = _
  rcases Nat.lt_or_ge (n.log2 + 2) drop with h | h
  · rw [Nat.min_eq_right (Nat.le_of_lt h)]
    have h1 := log_lt n
    have h2 : 2 ^ (n.log2 + 2) = 2 * 2 ^ (n.log2 + 1) := by rw [Nat.pow_succ 2 (n.log2 + 1)]; omega
    have h3 : 2 ^ (n.log2 + 2) < 2 ^ drop := Nat.pow_lt_pow_right (by decide) h
    rw [Nat.div_eq_of_lt (by omega), Nat.div_eq_of_lt (by omega)]
  · rw [Nat.min_eq_left h]; rfl
/-- A float that is not below nought, made whole. -/
theorem whole_pos {x : Nat} (h : x < 9218868437227405312) : (dbl.read x).toInt .zero = some ((vl x / 2 ^ 1074 : Nat) : Int) := by
  rw [read_num (r := x) (by omega) h]
  have e1 : (x / 9223372036854775808 % 2 == 1) = false := by rw [Nat.div_eq_of_lt (by omega)]; rfl
  rw [e1]
  show some (Ieee.signed false (Ieee.Toward.zero.cut false (mg x <<< (-1074 + (ex x : Int)).toNat) (-(-1074 + (ex x : Int))).toNat) 0) = _
  rw [cut_zero, signed_eq, Nat.shiftLeft_eq, Nat.pow_zero, Nat.mul_one]
  unfold vl
  simp only [Bool.false_eq_true, if_false, Option.some.injEq]
  congr 1
  rcases Nat.lt_or_ge (ex x) 1074 with h1 | h1
  · have a1 : (-1074 + (ex x : Int)).toNat = 0 := by omega
    have a2 : (-(-1074 + (ex x : Int))).toNat = 1074 - ex x := by omega
    rw [a1, a2, Nat.pow_zero, Nat.mul_one]
    have := Nat.mul_div_mul_right (mg x) (2 ^ (1074 - ex x)) (Nat.two_pow_pos (ex x))
    rw [← Nat.pow_add, show 1074 - ex x + ex x = 1074 by omega] at this
    exact this.symm
  · have a1 : (-1074 + (ex x : Int)).toNat = ex x - 1074 := by omega
    have a2 : (-(-1074 + (ex x : Int))).toNat = 0 := by omega
    rw [a1, a2, Nat.pow_zero, Nat.div_one]
    have := Nat.mul_div_cancel (mg x * 2 ^ (ex x - 1074)) (Nat.two_pow_pos 1074)
    rw [Nat.mul_assoc, ← Nat.pow_add, show ex x - 1074 + 1074 = ex x by omega] at this
    exact this.symm
/-- What rate.Of rounds to: the float times 2 ^ 20, to the nearest, to the even one. -/
def nOf (r : Nat) : Nat := rne (mg r) (2 ^ (1054 - ex r))
theorem nOf_le {r : Nat} (h : r ≤ 4652218415073722368) : nOf r ≤ 1073741824 := by
  unfold nOf
  rcases Nat.lt_or_ge r 4652218415073722368 with g | g
  · apply rne_lt (Nat.two_pow_pos _)
    have h1 := mg_lt r
    have h2 : (2 : Nat) ^ 23 ≤ 2 ^ (1054 - ex r) := Nat.pow_le_pow_right (by decide) (by unfold ex; omega)
    have h3 : (2 : Nat) ^ 23 = 8388608 := by decide
    omega
  · rw [show r = 4652218415073722368 by omega]
    decide +kernel
end Go.Proofs.YtpebcphkockkkaaDoor.Hand
