/-
  Seconds and ticks: floats times 1000. No program.
-/
import Derived.Test.YtpebcphkockkkaaDoorFlt6
namespace Go.Proofs.YtpebcphkockkkaaDoor.Hand
open Go.RowKit

theorem nearest_le (m : Nat) (e : Int) : dbl.nearest false m e ≤ 9218868437227405312 := by
  unfold Ieee.Format.nearest
  dsimp only
  split
  · exact Nat.le_trans (Nat.le_of_eq (word_pos _)) (by decide)
  · refine Nat.le_trans (Nat.le_of_eq (word_pos _)) ?_
    rw [dbl_inf]
    exact Nat.min_le_right _ _
theorem nan_pos {b : Nat} (h1 : nanB b = false) (h2 : b < 9223372036854775808) : b ≤ 9218868437227405312 := by
  have := of_decide_eq_false h1; omega
theorem pos_nan {b : Nat} (h : b ≤ 9218868437227405312) : nanB b = false := decide_eq_false (by omega)
theorem key_pos {b : Nat} (h : b ≤ 9218868437227405312) : key b = (b : Int) := by
  unfold key
  have e : b % 9223372036854775808 = b := Nat.mod_eq_of_lt (by omega)
  rw [Nat.div_eq_of_lt (by omega), e]; rfl
theorem ord_gt {a b : Nat} (ha : a ≤ 9218868437227405312) (hb : b ≤ 9218868437227405312) : (dbl.order a b == some Ordering.gt) = decide (b < a) := by
  rw [ord_key (pos_nan ha) (pos_nan hb), key_pos ha, key_pos hb]
  by_cases h : b < a
  · rw [decide_eq_true h, Int.compare_eq_gt.2 (by omega)]; rfl
  · rw [decide_eq_false h]
    rcases Nat.lt_or_ge a b with g | g
    · rw [Int.compare_eq_lt.2 (by omega)]; rfl
    · rw [Int.compare_eq_eq.2 (show (a : Int) = (b : Int) by omega)]; rfl
theorem c1000 : mg 4652007308841189376 = 8796093022208000 ∧ ex 4652007308841189376 = 1031 := by decide +kernel
theorem read1000 : dbl.read 4652007308841189376 = .number false 8796093022208000 (-43) := by decide +kernel
/-- A float that is not below nought, times 1000. -/
theorem mul1000 {b : Nat} (h : b ≤ 9218868437227405312) : ∃ p, dbl.mul b 4652007308841189376 = some p ∧ p ≤ 9218868437227405312 := by
  unfold Ieee.Format.mul
  rw [read1000]
  rcases Nat.lt_or_ge b 9218868437227405312 with g | g
  · rw [read_pos g]
    exact ⟨_, rfl, nearest_le _ _⟩
  · obtain rfl : b = 9218868437227405312 := by omega
    exact ⟨9218868437227405312, by decide +kernel, Nat.le_refl _⟩
def p1000 (b : Nat) : Nat := (dbl.mul b 4652007308841189376).getD 0
theorem p1000_some {b : Nat} (h : b ≤ 9218868437227405312) : dbl.mul b 4652007308841189376 = some (p1000 b) ∧ p1000 b ≤ 9218868437227405312 := by
  obtain ⟨p, e, hp⟩ := mul1000 h
  unfold p1000
  rw [e]; exact ⟨rfl, hp⟩
theorem vl53 : vl 4845873199050653696 = 9007199254740992 * 2 ^ 1074 := by decide +kernel
/-- Made whole: no more than 2 ^ 53. -/
theorem whole53 {p : Nat} (h : p ≤ 4845873199050653696) : Go.floatToIntVal .f64 p .u64 = some ((vl p / 2 ^ 1074 : Nat) : Int) ∧ vl p / 2 ^ 1074 ≤ 9007199254740992 := by
  have h2 : vl p / 2 ^ 1074 ≤ 9007199254740992 := by
    have h1 := vl_le h
    rw [vl53] at h1
    have := Nat.div_le_div_right (c := 2 ^ 1074) h1
    rw [Nat.mul_div_cancel _ (Nat.two_pow_pos 1074)] at this
    exact this
  refine ⟨?_, h2⟩
  unfold Go.floatToIntVal
  have := whole_pos (x := p) (by omega)
  show (match (dbl.read p).toInt .zero with | some n => if IntKind.u64.min ≤ n ∧ n ≤ IntKind.u64.max then some n else none | none => none) = _
  rw [this]
  generalize vl p / 2 ^ 1074 = n at *
  refine if_pos ⟨?_, ?_⟩
  · show (0 : Int) ≤ n; omega
  · show (n : Int) ≤ 18446744073709551615; omega
/-- Ticks: how many, or why not. -/
def ticksV (b : Nat) : Int × Int :=
  if nanB b = true then (0, 10) else if 9223372036854775808 ≤ b then (0, 11) else if 4845873199050653696 < p1000 b then (0, 1) else (((vl (p1000 b) / 2 ^ 1074 : Nat) : Int), 0)
end Go.Proofs.YtpebcphkockkkaaDoor.Hand
