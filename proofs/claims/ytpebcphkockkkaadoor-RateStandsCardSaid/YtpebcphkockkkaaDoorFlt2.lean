/-
  The order of floats is that of their keys. No program.
-/
import Derived.Test.YtpebcphkockkkaaDoorFlt1
namespace Go.Proofs.YtpebcphkockkkaaDoor.Hand
open Go.RowKit

def ex (r : Nat) : Nat := r / 4503599627370496 - 1
def mg (r : Nat) : Nat := r - ex r * 4503599627370496
theorem mg_lt (r : Nat) : mg r < 9007199254740992 := by unfold mg ex; omega
theorem mg_ge {r : Nat} (h : 4503599627370496 ≤ r) : 4503599627370496 ≤ mg r := by unfold mg ex; omega
theorem mg_sub {r : Nat} (h : r < 4503599627370496) : mg r = r ∧ ex r = 0 := by unfold mg ex; omega
theorem mg_norm {r : Nat} (h : 4503599627370496 ≤ r) : 4503599627370496 + r % 4503599627370496 = mg r := by unfold mg ex; omega
theorem mg_ex (r : Nat) : mg r + ex r * 4503599627370496 = r := by unfold mg ex; omega
theorem read_num {b r : Nat} (hr : b % 9223372036854775808 = r) (h : r < 9218868437227405312) : dbl.read b = .number (b / 9223372036854775808 % 2 == 1) (mg r) (-1074 + (ex r : Int)) := by
  rw [read_def, hr]
  by_cases h1 : r < 4503599627370496
  · rw [if_pos h1, (mg_sub h1).1, (mg_sub h1).2]; rfl
  · rw [if_neg h1, if_pos h, mg_norm (by omega)]; rfl
theorem read_inf {b : Nat} (h : b % 9223372036854775808 = 9218868437227405312) : dbl.read b = .infinity (b / 9223372036854775808 % 2 == 1) := by
  rw [read_def, h, if_neg (by omega), if_neg (by omega), if_pos rfl]
def vl (r : Nat) : Nat := mg r * 2 ^ ex r
theorem vl_mono {r s : Nat} (h : r < s) : vl r < vl s := by
  unfold vl
  rcases Nat.lt_or_ge (ex r) (ex s) with h1 | h1
  · have hs : 4503599627370496 ≤ mg s := by
      apply mg_ge
      unfold ex at h1; omega
    have h2 : mg r * 2 ^ ex r < 9007199254740992 * 2 ^ ex r := Nat.mul_lt_mul_of_pos_right (mg_lt r) (Nat.two_pow_pos _)
    have h3 : 2 ^ (ex r + 1) ≤ 2 ^ ex s := Nat.pow_le_pow_right (by decide) h1
    have h4 : 4503599627370496 * 2 ^ ex s ≤ mg s * 2 ^ ex s := Nat.mul_le_mul_right _ hs
    rw [Nat.pow_succ] at h3
    omega
  · have e : ex r = ex s := by unfold ex at *; omega
    rw [e]
    apply Nat.mul_lt_mul_of_pos_right _ (Nat.two_pow_pos _)
    have := mg_ex r
    have := mg_ex s
    rw [e] at *
    omega
theorem vl_le {r s : Nat} (h : r ≤ s) : vl r ≤ vl s := by
  rcases Nat.lt_or_ge r s with g | g
  · exact Nat.le_of_lt (vl_mono g)
  · rw [show r = s by omega]; exact Nat.le_refl _
/-- A float's place among the floats. -/
def key (b : Nat) : Int := if b / 9223372036854775808 % 2 == 1 then -((b % 9223372036854775808 : Nat) : Int) else ((b % 9223372036854775808 : Nat) : Int)
theorem signed_eq (s : Bool) (m u : Nat) : Ieee.signed s m u = if s then -((m * 2 ^ u : Nat) : Int) else ((m * 2 ^ u : Nat) : Int) := by
  unfold Ieee.signed
  rw [Nat.shiftLeft_eq]
theorem cmp_iff {x y a b : Int} (h1 : x < y ↔ a < b) (h2 : x = y ↔ a = b) : compare x y = compare a b := by
  rcases Int.lt_trichotomy x y with h | h | h
  · rw [Int.compare_eq_lt.2 h, Int.compare_eq_lt.2 (h1.1 h)]
  · rw [Int.compare_eq_eq.2 h, Int.compare_eq_eq.2 (h2.1 h)]
  · have : b < a := by
      rcases Int.lt_trichotomy a b with g | g | g
      · have := h1.2 g; omega
      · have := h2.2 g; omega
      · exact g
    rw [Int.compare_eq_gt.2 h, Int.compare_eq_gt.2 this]
theorem sv_iff (s t : Bool) (r q : Nat) (c : Nat) (hc : 0 < c) (A B : Nat) (hA : A * c = vl r) (hB : B * c = vl q) :
    compare (if s then -(A : Int) else (A : Int)) (if t then -(B : Int) else (B : Int)) = compare (if s then -(r : Int) else (r : Int)) (if t then -(q : Int) else (q : Int)) := by
  have v0 : vl 0 = 0 := by decide +kernel
  have lt : A < B ↔ r < q := by
    constructor
    · intro h
      have : A * c < B * c := Nat.mul_lt_mul_of_pos_right h hc
      rw [hA, hB] at this
      rcases Nat.lt_or_ge r q with g | g
      · exact g
      · have := vl_le g; omega
    · intro h
      have := vl_mono h
      rw [← hA, ← hB] at this
      exact Nat.lt_of_mul_lt_mul_right this
  have gt : B < A ↔ q < r := by
    constructor
    · intro h
      have : B * c < A * c := Nat.mul_lt_mul_of_pos_right h hc
      rw [hA, hB] at this
      rcases Nat.lt_or_ge q r with g | g
      · exact g
      · have := vl_le g; omega
    · intro h
      have := vl_mono h
      rw [← hA, ← hB] at this
      exact Nat.lt_of_mul_lt_mul_right this
  have zA : 0 < A ↔ 0 < r := by
    constructor
    · intro h
      have : 0 * c < A * c := Nat.mul_lt_mul_of_pos_right h hc
      rw [hA] at this
      rcases Nat.lt_or_ge 0 r with g | g
      · exact g
      · rw [show r = 0 by omega, v0] at this; omega
    · intro h
      have := vl_mono h
      rw [v0, ← hA] at this
      exact Nat.pos_of_mul_pos_right this
  have zB : 0 < B ↔ 0 < q := by
    constructor
    · intro h
      have : 0 * c < B * c := Nat.mul_lt_mul_of_pos_right h hc
      rw [hB] at this
      rcases Nat.lt_or_ge 0 q with g | g
      · exact g
      · rw [show q = 0 by omega, v0] at this; omega
    · intro h
      have := vl_mono h
      rw [v0, ← hB] at this
      exact Nat.pos_of_mul_pos_right this
  apply cmp_iff
  · cases s <;> cases t <;> simp only [if_true, if_false, Bool.false_eq_true] <;> omega
  · cases s <;> cases t <;> simp only [if_true, if_false, Bool.false_eq_true] <;> omega
theorem ord_num {a b r q : Nat} (ha : a % 9223372036854775808 = r) (hb : b % 9223372036854775808 = q) (h1 : r < 9218868437227405312) (h2 : q < 9218868437227405312) : dbl.order a b = some (compare (key a) (key b)) := by
  unfold Ieee.Format.order key
  rw [read_num ha h1, read_num hb h2, ha, hb]
  generalize (a / 9223372036854775808 % 2 == 1) = s
  generalize (b / 9223372036854775808 % 2 == 1) = t
  show some (compare (Ieee.signed s (mg r) (-1074 + (ex r : Int) - min (-1074 + (ex r : Int)) (-1074 + (ex q : Int))).toNat) (Ieee.signed t (mg q) (-1074 + (ex q : Int) - min (-1074 + (ex r : Int)) (-1074 + (ex q : Int))).toNat)) = _
  rw [signed_eq, signed_eq]
  have e1 : (-1074 + (ex r : Int) - min (-1074 + (ex r : Int)) (-1074 + (ex q : Int))).toNat = ex r - min (ex r) (ex q) := by omega
  have e2 : (-1074 + (ex q : Int) - min (-1074 + (ex r : Int)) (-1074 + (ex q : Int))).toNat = ex q - min (ex r) (ex q) := by omega
  rw [e1, e2]
  refine congrArg some (sv_iff s t r q (2 ^ min (ex r) (ex q)) (Nat.two_pow_pos _) _ _ ?_ ?_)
  · rw [Nat.mul_assoc, ← Nat.pow_add, show ex r - min (ex r) (ex q) + min (ex r) (ex q) = ex r by omega]; rfl
  · rw [Nat.mul_assoc, ← Nat.pow_add, show ex q - min (ex r) (ex q) + min (ex r) (ex q) = ex q by omega]; rfl
theorem ord_key {a b : Nat} (ha : nanB a = false) (hb : nanB b = false) : dbl.order a b = some (compare (key a) (key b)) := by
  have ha := of_decide_eq_false ha
  have hb := of_decide_eq_false hb
  rcases Nat.lt_or_ge (a % 9223372036854775808) 9218868437227405312 with h1 | h1
  · rcases Nat.lt_or_ge (b % 9223372036854775808) 9218868437227405312 with h2 | h2
    · exact ord_num rfl rfl h1 h2
    · have e : b % 9223372036854775808 = 9218868437227405312 := by omega
      unfold Ieee.Format.order key
      rw [read_num rfl h1, read_inf e, e]
      generalize (a / 9223372036854775808 % 2 == 1) = s
      generalize (b / 9223372036854775808 % 2 == 1) = t
      generalize a % 9223372036854775808 = r at *
      cases t
      · show some Ordering.lt = _
        rw [Int.compare_eq_lt.2 (by cases s <;> simp <;> omega)]
      · show some Ordering.gt = _
        rw [Int.compare_eq_gt.2 (by cases s <;> simp <;> omega)]
  · have e : a % 9223372036854775808 = 9218868437227405312 := by omega
    rcases Nat.lt_or_ge (b % 9223372036854775808) 9218868437227405312 with h2 | h2
    · unfold Ieee.Format.order key
      rw [read_num rfl h2, read_inf e, e]
      generalize (a / 9223372036854775808 % 2 == 1) = s
      generalize (b / 9223372036854775808 % 2 == 1) = t
      generalize b % 9223372036854775808 = r at *
      cases s
      · show some Ordering.gt = _
        rw [Int.compare_eq_gt.2 (by cases t <;> simp <;> omega)]
      · show some Ordering.lt = _
        rw [Int.compare_eq_lt.2 (by cases t <;> simp <;> omega)]
    · have e2 : b % 9223372036854775808 = 9218868437227405312 := by omega
      unfold Ieee.Format.order key
      rw [read_inf e, read_inf e2, e, e2]
      generalize (a / 9223372036854775808 % 2 == 1) = s
      generalize (b / 9223372036854775808 % 2 == 1) = t
      cases s <;> cases t <;> rfl
theorem ord_nan {a b : Nat} (h : nanB a = true ∨ nanB b = true) : dbl.order a b = none := by
  unfold Ieee.Format.order
  rcases h with h | h
  · obtain ⟨s, f, e⟩ := read_nan h
    rw [e]; rfl
  · obtain ⟨s, f, e⟩ := read_nan h
    rw [e]
    cases dbl.read a <;> rfl
end Go.Proofs.YtpebcphkockkkaaDoor.Hand
