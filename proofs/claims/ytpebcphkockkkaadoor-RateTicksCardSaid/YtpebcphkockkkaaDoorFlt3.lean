/-
  Seconds and ticks as floats: a whole number times 1000, and back; the order is kept. No program.
-/
import Derived.Test.YtpebcphkockkkaaDoorFlt2
namespace Go.Proofs.YtpebcphkockkkaaDoor.Hand
open Go.RowKit
set_option linter.unusedSimpArgs false
set_option linter.unusedVariables false
set_option exponentiation.threshold 3000

theorem c1000_val : (8796093022208000 : Nat) = 1000 * 2 ^ 43 := by decide
theorem lc1000 : (8796093022208000 : Nat).log2 = 52 := by decide +kernel
theorem p1000_eq {z : Nat} (hz : z < 9218868437227405312) : dbl.mul z 4652007308841189376 = some (dbl.nearest false (mg z * 8796093022208000) (-1074 + (ex z : Int) + -43)) := by
  unfold Ieee.Format.mul
  rw [read_pos hz, read1000]; rfl
theorem arith1 (A E P m : Nat) (h : A * E = m * P) : A * 8796093022208000 * E = 1000 * m * P * 2 ^ 43 := by
  rw [Nat.mul_right_comm, h, c1000_val]
  generalize (2 : Nat) ^ 43 = Q
  simp only [Nat.mul_assoc, Nat.mul_comm, Nat.mul_left_comm]
/-- A whole number's float, times 1000. -/
theorem p1000_nat {m a r : Nat} (va : vl a = m * 2 ^ 1074) (vr : vl r = 1000 * m * 2 ^ 1074) (a1 : 4503599627370496 ≤ a) (a2 : a < 9218868437227405312) (r2 : r < 9218868437227405312) : p1000 a = r := by
  have hv := arith1 (mg a) (2 ^ ex a) (2 ^ 1074) m va
  rw [← vr] at hv
  have hm := mg_ge a1
  have hne : mg a * 8796093022208000 ≠ 0 := by clear va vr hv; omega
  have hs : -1074 + (ex a : Int) + -43 + 1074 + ((43 : Nat) : Int) = ((ex a : Nat) : Int) := by clear va vr hv hne; omega
  have hr : r ≤ 9218868437227405312 := Nat.le_of_lt r2
  clear va vr
  have h := near_exact (mg a * 8796093022208000) 43 (ex a) r (-1074 + (ex a : Int) + -43) hne hs hr hv
  unfold p1000
  rw [p1000_eq a2, h]; rfl
theorem arith2 (M T U m R P : Nat) (e : M = 1000 * m * T) (hU : U = T * R) (hR : R = 2 ^ 11) : M * 2 ^ 54 = m * U * 8796093022208000 := by
  have h54 : (2 : Nat) ^ 54 = 2 ^ 11 * 2 ^ 43 := by decide
  rw [e, hU, h54, ← hR, c1000_val]
  generalize (2 : Nat) ^ 43 = Q
  simp only [Nat.mul_assoc, Nat.mul_comm, Nat.mul_left_comm]
theorem arith3 (m U E P : Nat) (h : U * E = P * 2 ^ 11) : (2 * (m * U) + 0) * E = m * P * 2 ^ 12 := by
  have h12 : (2 : Nat) ^ 12 = 2 * 2 ^ 11 := by decide
  rw [Nat.add_zero, Nat.mul_assoc, Nat.mul_assoc m, h, h12]
  generalize (2 : Nat) ^ 11 = R
  simp only [Nat.mul_assoc, Nat.mul_comm, Nat.mul_left_comm]
theorem ex_le {r : Nat} (h : r < 4845873199050653696) : ex r ≤ 1074 := by unfold ex; omega
theorem secs_nat {m a r : Nat} (va : vl a = m * 2 ^ 1074) (vr : vl r = 1000 * m * 2 ^ 1074) (h0 : m ≠ 0) (r1 : 4503599627370496 ≤ r) (r2 : r < 4845873199050653696) (a2 : a < 9218868437227405312) : dbl.div r 4652007308841189376 = some a := by
  have hx := ex_le r2
  have lm := log_norm r1
  have e1 : mg r = 1000 * m * 2 ^ (1074 - ex r) := by
    have e : mg r * 2 ^ ex r = 1000 * m * 2 ^ (1074 - ex r) * 2 ^ ex r := by
      rw [Nat.mul_assoc, ← Nat.pow_add 2 (1074 - ex r) (ex r), Nat.sub_add_cancel hx]
      exact vr
    exact Nat.eq_of_mul_eq_mul_right (Nat.two_pow_pos _) e
  have hU : (2 : Nat) ^ (1085 - ex r) = 2 ^ (1074 - ex r) * 2 ^ 11 := by
    rw [← Nat.pow_add]; congr 1; clear va vr e1; omega
  have e2 : mg r * 2 ^ 54 = m * 2 ^ (1085 - ex r) * 8796093022208000 := arith2 _ _ _ m _ 0 e1 hU rfl
  have hE : (2 : Nat) ^ (1085 - ex r) * 2 ^ ex r = 2 ^ 1074 * 2 ^ 11 := by
    rw [← Nat.pow_add, ← Nat.pow_add]; congr 1; clear va vr e1 e2 hU; omega
  have hv := arith3 m _ _ _ hE
  rw [← va] at hv
  have hne : 2 * (m * 2 ^ (1085 - ex r)) + 0 ≠ 0 := by
    have := Nat.mul_pos (Nat.pos_of_ne_zero h0) (Nat.two_pow_pos (1085 - ex r))
    generalize m * 2 ^ (1085 - ex r) = z at *
    clear va vr hv e2 e1 hU hE; omega
  have hs : -1074 + (ex r : Int) - -43 - ((54 : Nat) : Int) - 1 + 1074 + ((12 : Nat) : Int) = ((ex r : Nat) : Int) := by clear va vr hv e2 e1 hU hE hne; omega
  have ha : a ≤ 9218868437227405312 := Nat.le_of_lt a2
  have r3 : r < 9218868437227405312 := Nat.lt_trans r2 (by decide)
  clear va vr hU hE e1 hx
  have h := near_exact (2 * (m * 2 ^ (1085 - ex r)) + 0) 12 (ex r) a (-1074 + (ex r : Int) - -43 - ((54 : Nat) : Int) - 1) hne hs ha hv
  have e3 : mg r <<< 54 = m * 2 ^ (1085 - ex r) * 8796093022208000 := by rw [Nat.shiftLeft_eq]; exact e2
  clear hv e2 hne hs
  unfold Ieee.Format.div
  have fb : dbl.fractionBits = 52 := rfl
  rw [read_pos r3, read1000]
  simp only [Ieee.Datum.quotient, fb, lm, lc1000, Nat.reduceAdd, Nat.reduceSub]
  rw [if_neg (by decide), Option.map_some, e3, Nat.mul_div_cancel _ (by decide), Nat.mul_mod_left]
  exact congrArg some h
theorem p1000_zero : p1000 0 = 0 := by decide +kernel
theorem p1000_inf : p1000 9218868437227405312 = 9218868437227405312 := by decide +kernel
theorem mg_pos {z : Nat} (hz : 0 < z) : mg z * 8796093022208000 ≠ 0 := by
  have : 0 < mg z := by
    rcases Nat.lt_or_ge z 4503599627370496 with q | q
    · rw [(mg_sub q).1]; exact hz
    · have := mg_ge q; omega
  omega
theorem p1000_lt {x y : Nat} (h0 : 0 < x) (h : x ≤ y) (g : y < 9218868437227405312) : p1000 x ≤ p1000 y := by
  have e1 := p1000_eq (Nat.lt_of_le_of_lt h g)
  have e2 := p1000_eq g
  have hv := Nat.mul_le_mul_right 8796093022208000 (vl_le h)
  have hv' : mg x * 8796093022208000 * 2 ^ ex x ≤ mg y * 8796093022208000 * 2 ^ ex y := by
    rw [Nat.mul_right_comm (mg x), Nat.mul_right_comm (mg y)]; exact hv
  have hx : -1074 + (ex x : Int) + -43 + 1074 + ((43 : Nat) : Int) = ((ex x : Nat) : Int) := by omega
  have hy : -1074 + (ex y : Int) + -43 + 1074 + ((43 : Nat) : Int) = ((ex y : Nat) : Int) := by omega
  have hm := near_mono (mg x * 8796093022208000) (mg y * 8796093022208000) 43 (ex x) (ex y) _ _ (mg_pos h0) (mg_pos (Nat.lt_of_lt_of_le h0 h)) hx hy hv'
  unfold p1000
  rw [e1, e2, Option.getD_some, Option.getD_some]
  exact hm
theorem p1000_mono {x y : Nat} (h : x ≤ y) (hy : y ≤ 9218868437227405312) : p1000 x ≤ p1000 y := by
  rcases Nat.eq_zero_or_pos x with h0 | h0
  · have : p1000 x = 0 := by rw [h0]; exact p1000_zero
    rw [this]; exact Nat.zero_le _
  · rcases Nat.lt_or_ge y 9218868437227405312 with g | g
    · exact p1000_lt h0 h g
    · have e : p1000 y = 9218868437227405312 := by rw [Nat.le_antisymm hy g]; exact p1000_inf
      rw [e]
      exact (p1000_some (Nat.le_trans h hy)).2
theorem lt53 {m r : Nat} (hm : 1000 * m < 9007199254740992) (vr : vl r = 1000 * m * 2 ^ 1074) : r < 4845873199050653696 := by
  rcases Nat.lt_or_ge r 4845873199050653696 with g | g
  · exact g
  · have h1 := vl_le g
    rw [vl53, vr] at h1
    exact absurd hm (Nat.not_lt.2 (Nat.le_of_mul_le_mul_right h1 (Nat.two_pow_pos 1074)))
theorem vl_div {m r : Nat} (vr : vl r = m * 2 ^ 1074) : vl r / 2 ^ 1074 = m := by rw [vr]; exact Nat.mul_div_cancel _ (Nat.two_pow_pos 1074)
theorem thousand {m : Nat} (h0 : m ≠ 0) (hm : m ≤ 1099511627776) : ∃ a r, floatOfInt .f64 (m : Int) = a ∧ floatOfInt .f64 ((1000 * m : Nat) : Int) = r ∧ a < 9218868437227405312 ∧ r < 4845873199050653696 ∧ p1000 a = r ∧ vl r / 2 ^ 1074 = 1000 * m ∧ dbl.div r 4652007308841189376 = some a := by
  obtain ⟨a, ea, va, a1, a2⟩ := near_nat h0 (by omega)
  obtain ⟨r, er, vr, r1, r2⟩ := near_nat (n := 1000 * m) (by omega) (by omega)
  have hr := lt53 (by omega) vr
  exact ⟨a, r, ea, er, a2, hr, p1000_nat va vr a1 a2 r2, vl_div vr, secs_nat va vr h0 r1 hr a2⟩
end Go.Proofs.YtpebcphkockkkaaDoor.Hand
