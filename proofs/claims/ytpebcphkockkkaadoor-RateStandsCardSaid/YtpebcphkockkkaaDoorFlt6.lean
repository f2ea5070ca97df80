/-
  Whole numbers as floats, and a fraction's float. No program.
-/
import Derived.Test.YtpebcphkockkkaaDoorFlt5
namespace Go.Proofs.YtpebcphkockkkaaDoor.Hand
open Go.RowKit

/-- A whole number of 53 bits at most, times a power of two, is a float. -/
theorem rep {m s : Nat} (hm : m ≠ 0) (hb : m < 9007199254740992) (hs : 52 ≤ s + m.log2) (ht : s + m.log2 ≤ 2096) : ∃ r, vl r = m * 2 ^ s ∧ 4503599627370496 ≤ r ∧ r < 9218868437227405312 ∧ r < (s + m.log2 - 50) * 4503599627370496 ∧ ex r = s + m.log2 - 52 := by
  have hl : m.log2 < 53 := (Nat.log2_lt hm).2 (by rw [pow53]; exact hb)
  have h1 := Nat.log2_self_le hm
  have h2 := log_lt m
  generalize hL : m.log2 = L at *
  have p : 2 ^ L * 2 ^ (52 - L) = 4503599627370496 := by rw [← Nat.pow_add, show L + (52 - L) = 52 by omega, pow52]
  have a1 : 4503599627370496 ≤ m * 2 ^ (52 - L) := by rw [← p]; exact Nat.mul_le_mul_right _ h1
  have a2 : m * 2 ^ (52 - L) < 9007199254740992 := by
    have : m * 2 ^ (52 - L) < 2 ^ (L + 1) * 2 ^ (52 - L) := Nat.mul_lt_mul_of_pos_right h2 (Nat.two_pow_pos _)
    rw [Nat.pow_succ, Nat.mul_right_comm, p] at this
    omega
  have e : m * 2 ^ (52 - L) * 2 ^ (s + L - 52) = m * 2 ^ s := by rw [Nat.mul_assoc, ← Nat.pow_add, show 52 - L + (s + L - 52) = s by omega]
  generalize m * 2 ^ (52 - L) = M at *
  refine ⟨M + (s + L - 52) * 4503599627370496, ?_, by omega, by omega, by omega, ?_⟩
  · have f1 : ex (M + (s + L - 52) * 4503599627370496) = s + L - 52 := by
      show (M + (s + L - 52) * 4503599627370496) / 4503599627370496 - 1 = s + L - 52
      omega
    have f2 : mg (M + (s + L - 52) * 4503599627370496) = M := by unfold mg; rw [f1]; omega
    unfold vl
    rw [f1, f2]; exact e
  · show (M + (s + L - 52) * 4503599627370496) / 4503599627370496 - 1 = s + L - 52
    omega
theorem nearest_nat (n : Nat) : FloatKind.f64.nearest (n : Int) = dbl.nearest false n 0 := by
  show dbl.nearest (decide ((n : Int) < 0)) (n : Int).natAbs 0 = _
  rw [decide_eq_false (by omega), Int.natAbs_natCast]
/-- A whole number as a float. -/
theorem near_nat {n : Nat} (h0 : n ≠ 0) (h : n < 9007199254740992) : ∃ a, FloatKind.f64.nearest (n : Int) = a ∧ vl a = n * 2 ^ 1074 ∧ 4503599627370496 ≤ a ∧ a < 9218868437227405312 := by
  have hl : n.log2 < 53 := (Nat.log2_lt h0).2 (by rw [pow53]; exact h)
  obtain ⟨r, e, r1, r2, _, _⟩ := rep (s := 1074) h0 h (by omega) (by omega)
  refine ⟨r, ?_, e, r1, r2⟩
  rw [nearest_nat]
  exact near_exact n 0 1074 r 0 h0 (by omega) (by omega) (by rw [e, Nat.pow_zero, Nat.mul_one])
theorem near_pow : ∀ k : Fin 21, FloatKind.f64.nearest ((2 : Int) ^ k.val) = (1023 + k.val) * 4503599627370496 ∧ mg ((1023 + k.val) * 4503599627370496) = 4503599627370496 ∧ ex ((1023 + k.val) * 4503599627370496) = 1022 + k.val := by decide +kernel
theorem log_norm {r : Nat} (h : 4503599627370496 ≤ r) : (mg r).log2 = 52 := by
  have hm := mg_ge h
  have hm2 := mg_lt r
  have h1 : (mg r).log2 < 53 := (Nat.log2_lt (by omega)).2 (by rw [pow53]; exact hm2)
  have h2 : 52 ≤ (mg r).log2 := (Nat.le_log2 (by omega)).2 (by rw [pow52]; exact hm)
  omega
theorem read_pos {x : Nat} (hx : x < 9218868437227405312) : dbl.read x = .number false (mg x) (-1074 + (ex x : Int)) := by
  rw [read_num (r := x) (by omega) hx]
  have e1 : (x / 9223372036854775808 % 2 == 1) = false := by rw [Nat.div_eq_of_lt (by omega)]; rfl
  rw [e1]
/-- A fraction of at most 53 bits over a power of two, divided: the float that has its value. -/
theorem div_pow {n k : Nat} (hk : k ≤ 20) (h0 : n ≠ 0) (h : n < 9007199254740992) : ∃ w, dbl.div (FloatKind.f64.nearest (n : Int)) (FloatKind.f64.nearest ((2 : Int) ^ k)) = some w ∧ vl w = n * 2 ^ (1074 - k) ∧ 4503599627370496 ≤ w ∧ w < 9218868437227405312 := by
  obtain ⟨a, ea, va, a1, a2⟩ := near_nat h0 h
  obtain ⟨c1, c2, c3⟩ := near_pow ⟨k, by omega⟩
  dsimp only at c1 c2 c3
  have hl : n.log2 < 53 := (Nat.log2_lt h0).2 (by rw [pow53]; exact h)
  obtain ⟨w, e, r1, r2, _, _⟩ := rep (s := 1074 - k) h0 h (by omega) (by omega)
  refine ⟨w, ?_, e, r1, r2⟩
  rw [ea, c1]
  unfold Ieee.Format.div
  rw [read_pos a2, read_pos (by omega), c2, c3]
  have lm := log_norm a1
  have lB : (4503599627370496 : Nat).log2 = 52 := by decide +kernel
  have fb : dbl.fractionBits = 52 := rfl
  simp only [Ieee.Datum.quotient, fb, lm, lB, Nat.reduceAdd, Nat.reduceSub]
  rw [if_neg (by decide), Option.map_some]
  have e1 : mg a <<< 54 = mg a * 4 * 4503599627370496 := by
    rw [Nat.shiftLeft_eq, Nat.mul_assoc]
  rw [e1, Nat.mul_div_cancel _ (by decide), Nat.mul_mod_left]
  have hm := mg_ge a1
  have hv : (2 * (mg a * 4) + 0) * 2 ^ ex a = vl w * 2 ^ (3 + k) := by
    have h8 : (2 * (mg a * 4) + 0) * 2 ^ ex a = 8 * vl a := by
      clear va e hl
      show _ = 8 * (mg a * 2 ^ ex a)
      rw [show 2 * (mg a * 4) + 0 = 8 * mg a by omega, Nat.mul_assoc]
    have hp : n * 2 ^ (1074 - k) * 2 ^ (3 + k) = n * 2 ^ (3 + 1074) := by
      rw [Nat.mul_assoc, ← Nat.pow_add 2 (1074 - k) (3 + k), show 1074 - k + (3 + k) = 3 + 1074 by omega]
    have h3 : (2 : Nat) ^ (3 + 1074) = 8 * 2 ^ 1074 := by rw [Nat.pow_add 2 3 1074]
    rw [h8, va, e, hp, h3]
    generalize (2 : Nat) ^ 1074 = P
    rw [Nat.mul_left_comm]
  have hne : 2 * (mg a * 4) + 0 ≠ 0 := by clear va e; omega
  have hs : -1074 + (ex a : Int) - (-1074 + ((1022 + k : Nat) : Int)) - ((54 : Nat) : Int) - 1 + 1074 + ((3 + k : Nat) : Int) = ((ex a : Nat) : Int) := by clear va e; omega
  have hw : w ≤ 9218868437227405312 := by clear va e; omega
  exact congrArg some (near_exact _ (3 + k) (ex a) w _ hne hs hw hv)
theorem div_zero_pow : ∀ k : Fin 21, dbl.div (FloatKind.f64.nearest 0) (FloatKind.f64.nearest ((2 : Int) ^ k.val)) = some 0 := by decide +kernel
end Go.Proofs.YtpebcphkockkkaaDoor.Hand
