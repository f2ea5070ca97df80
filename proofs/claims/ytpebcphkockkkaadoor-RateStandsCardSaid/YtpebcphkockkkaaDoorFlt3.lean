/-
  Rounding to the nearest float: it keeps the order, and keeps what is a float. No program.
-/
import Derived.Test.YtpebcphkockkkaaDoorFlt2
namespace Go.Proofs.YtpebcphkockkkaaDoor.Hand
open Go.RowKit

/-- A quotient rounded to the nearest whole number, to the even one of two. -/
def rne (n g : Nat) : Nat := n / g + (if g < 2 * (n % g) ∨ (g = 2 * (n % g) ∧ n / g % 2 = 1) then 1 else 0)
theorem more_eq (g r q : Nat) : (decide (g < 2 * r) || (g == 2 * r && q % 2 == 1)).toNat = if g < 2 * r ∨ (g = 2 * r ∧ q % 2 = 1) then 1 else 0 := by
  by_cases h1 : g < 2 * r
  · simp [h1]
  · by_cases h2 : g = 2 * r
    · by_cases h3 : q % 2 = 1 <;> simp [h1, h2, h3]
    · simp [h1, h2]
theorem log_lt (n : Nat) : n < 2 ^ (n.log2 + 1) := Nat.lt_log2_self
theorem cut_eq (neg : Bool) (n drop : Nat) : Ieee.Toward.even.cut neg n drop = rne n (2 ^ drop) := by
  unfold Ieee.Toward.cut
  dsimp only
  rw [Nat.shiftLeft_eq, Nat.one_mul]
  rcases Nat.lt_or_ge (n.log2 + 2) drop with h | h
  · rw [Nat.min_eq_right (Nat.le_of_lt h), more_eq]
    have h1 := log_lt n
    have h2 : 2 ^ (n.log2 + 2) = 2 * 2 ^ (n.log2 + 1) := by rw [Nat.pow_succ 2 (n.log2 + 1)]; omega
    have h3 : 2 ^ (n.log2 + 2) < 2 ^ drop := Nat.pow_lt_pow_right (by decide) h
    unfold rne
    rw [Nat.div_eq_of_lt (by omega), Nat.mod_eq_of_lt (show n < 2 ^ (n.log2 + 2) by omega), Nat.div_eq_of_lt (show n < 2 ^ drop by omega), Nat.mod_eq_of_lt (show n < 2 ^ drop by omega), if_neg (by omega), if_neg (by omega)]
  · rw [Nat.min_eq_left h, more_eq]; rfl
theorem rne_mono {n m g : Nat} (hg : 0 < g) (h : n ≤ m) : rne n g ≤ rne m g := by
  unfold rne
  have h1 : n / g ≤ m / g := Nat.div_le_div_right h
  have e1 := Nat.div_add_mod n g
  have e2 := Nat.div_add_mod m g
  rcases Nat.lt_or_ge (n / g) (m / g) with q | q
  · split <;> split <;> omega
  · have e : n / g = m / g := by omega
    have hr : n % g ≤ m % g := by rw [e] at e1; omega
    clear e1 e2
    rw [e]
    split <;> split <;> omega
theorem rne_scale (n g c : Nat) (hc : 0 < c) : rne (n * c) (g * c) = rne n g := by
  unfold rne
  rw [Nat.mul_div_mul_right _ _ hc, Nat.mul_mod_mul_right]
  have h1 : g * c < 2 * (n % g * c) ↔ g < 2 * (n % g) := by
    rw [← Nat.mul_assoc]
    exact Nat.mul_lt_mul_right hc
  have h2 : g * c = 2 * (n % g * c) ↔ g = 2 * (n % g) := by
    rw [← Nat.mul_assoc]
    exact ⟨fun h => Nat.eq_of_mul_eq_mul_right hc h, fun h => by rw [← h]⟩
  simp only [h1, h2]
theorem rne_mul (q g : Nat) (hg : 0 < g) : rne (q * g) g = q := by
  unfold rne
  rw [Nat.mul_div_cancel _ hg, Nat.mul_mod_left, if_neg (by omega)]; rfl
theorem rne_lt {n g b : Nat} (hg : 0 < g) (h : n < b * g) : rne n g ≤ b := by
  have := (Nat.div_lt_iff_lt_mul hg).2 h
  unfold rne
  split <;> omega
theorem rne_ge {n g : Nat} : n / g ≤ rne n g := by unfold rne; omega
/-- The rung of V / 2 ^ (1074 + K). -/
def rungV (K V : Nat) : Nat := (V.log2 - 52 - K) * 4503599627370496 + rne V (2 ^ (V.log2 - 52 - K + K))
theorem log2_mul_pow (m s : Nat) (hm : m ≠ 0) : (m * 2 ^ s).log2 = m.log2 + s := by
  have h0 : m * 2 ^ s ≠ 0 := Nat.mul_ne_zero hm (Nat.pos_iff_ne_zero.1 (Nat.two_pow_pos s))
  have h1 : m.log2 + s ≤ (m * 2 ^ s).log2 := (Nat.le_log2 h0).2 (by rw [Nat.pow_add]; exact Nat.mul_le_mul_right _ (Nat.log2_self_le hm))
  have h2 : (m * 2 ^ s).log2 < m.log2 + 1 + s := (Nat.log2_lt h0).2 (by rw [Nat.pow_add]; exact Nat.mul_lt_mul_of_pos_right (log_lt m) (Nat.two_pow_pos _))
  omega
theorem near_rung (neg : Bool) (m K s : Nat) (e : Int) (hm : m ≠ 0) (hs : e + 1074 + K = s) : dbl.nearest neg m e = dbl.word neg (min (rungV K (m * 2 ^ s)) 9218868437227405312) := by
  unfold Ieee.Format.nearest
  rw [if_neg hm, dbl_least, dbl_bin, dbl_inf]
  show dbl.word neg (min ((max (e + (m.log2 : Int) - 52) (-1074) - -1074).toNat * 4503599627370496 + Ieee.Toward.even.cut neg (m <<< (e - max (e + (m.log2 : Int) - 52) (-1074)).toNat) (max (e + (m.log2 : Int) - 52) (-1074) - e).toNat) 9218868437227405312) = _
  rw [cut_eq]
  unfold rungV
  rw [log2_mul_pow m s hm]
  have e1 : (max (e + (m.log2 : Int) - 52) (-1074) - -1074).toNat = m.log2 + s - 52 - K := by omega
  rw [e1]
  congr 3
  generalize ht : m.log2 + s - 52 - K = t at *
  have e2 : max (e + (m.log2 : Int) - 52) (-1074) = (t : Int) - 1074 := by omega
  rw [e2, Nat.shiftLeft_eq]
  rcases Nat.lt_or_ge (t + K) s with h | h
  · have f1 : (e - ((t : Int) - 1074)).toNat = s - (t + K) := by omega
    have f2 : ((t : Int) - 1074 - e).toNat = 0 := by omega
    rw [f1, f2]
    have := rne_scale (m * 2 ^ (s - (t + K))) (2 ^ 0) (2 ^ (t + K)) (Nat.two_pow_pos _)
    rw [Nat.mul_assoc, ← Nat.pow_add, ← Nat.pow_add, show s - (t + K) + (t + K) = s by omega, Nat.zero_add] at this
    exact this.symm
  · have f1 : (e - ((t : Int) - 1074)).toNat = 0 := by omega
    have f2 : ((t : Int) - 1074 - e).toNat = t + K - s := by omega
    rw [f1, f2, Nat.pow_zero, Nat.mul_one]
    have := rne_scale m (2 ^ (t + K - s)) (2 ^ s) (Nat.two_pow_pos _)
    rw [← Nat.pow_add, show t + K - s + s = t + K by omega] at this
    exact this.symm
theorem pow52 : (2 : Nat) ^ 52 = 4503599627370496 := by decide
theorem pow53 : (2 : Nat) ^ 53 = 9007199254740992 := by decide
theorem rungV_mono {K V W : Nat} (h : V ≤ W) : rungV K V ≤ rungV K W := by
  unfold rungV
  rcases Nat.eq_zero_or_pos V with h0 | h0
  · subst h0
    have : rne 0 (2 ^ (Nat.log2 0 - 52 - K + K)) = 0 := by
      unfold rne; rw [Nat.zero_div, Nat.zero_mod, if_neg (by have := Nat.two_pow_pos (Nat.log2 0 - 52 - K + K); omega)]
    rw [this]
    have : Nat.log2 0 - 52 - K = 0 := by have : Nat.log2 0 = 0 := by decide
                                         omega
    rw [this]; omega
  have hl : V.log2 ≤ W.log2 := by
    have h1 := Nat.log2_self_le (show V ≠ 0 by omega)
    have h2 := log_lt W
    have : 2 ^ V.log2 < 2 ^ (W.log2 + 1) := by omega
    have := (Nat.pow_lt_pow_iff_right (by decide : 1 < 2)).1 this
    omega
  generalize ht : V.log2 - 52 - K = t at *
  generalize hu : W.log2 - 52 - K = u at *
  rcases Nat.lt_or_ge t u with q | q
  · have g1 : rne V (2 ^ (t + K)) ≤ 9007199254740992 := by
      apply rne_lt (Nat.two_pow_pos _)
      have h1 := log_lt V
      have h2 : 2 ^ (V.log2 + 1) ≤ 2 ^ (53 + (t + K)) := Nat.pow_le_pow_right (by decide) (by omega)
      have h3 : (2 : Nat) ^ (53 + (t + K)) = 9007199254740992 * 2 ^ (t + K) := by rw [Nat.pow_add, pow53]
      omega
    have g2 : 4503599627370496 ≤ rne W (2 ^ (u + K)) := by
      refine Nat.le_trans ?_ rne_ge
      rw [Nat.le_div_iff_mul_le (Nat.two_pow_pos _)]
      have h1 := Nat.log2_self_le (show W ≠ 0 by omega)
      have e : W.log2 = 52 + (u + K) := by omega
      rw [e, Nat.pow_add, pow52] at h1
      exact h1
    omega
  · have e : t = u := by omega
    subst e
    have := rne_mono (Nat.two_pow_pos (t + K)) h
    omega
theorem rungV_exact (K r : Nat) : rungV K (vl r * 2 ^ K) = r := by
  rcases Nat.eq_zero_or_pos r with h0 | h0
  · subst h0
    have v0 : vl 0 = 0 := by decide +kernel
    rw [v0, Nat.zero_mul]
    have := rungV_mono (K := K) (V := 0) (W := 0) (Nat.le_refl _)
    unfold rungV
    have l0 : Nat.log2 0 = 0 := by decide
    rw [l0, show 0 - 52 - K = 0 by omega]
    unfold rne
    rw [Nat.zero_div, Nat.zero_mod, if_neg (by have := Nat.two_pow_pos (0 + K); omega)]
  unfold rungV
  have hv : vl r ≠ 0 := by
    have v0 : vl 0 = 0 := by decide +kernel
    have := vl_mono h0; omega
  rw [log2_mul_pow _ _ hv]
  rcases Nat.lt_or_ge r 4503599627370496 with h | h
  · have e := mg_sub h
    have ev : vl r = r := by unfold vl; rw [e.1, e.2]; simp
    rw [ev] at *
    have hl : r.log2 < 52 := (Nat.log2_lt (by omega)).2 (by rw [pow52]; exact h)
    rw [show r.log2 + K - 52 - K = 0 by omega]
    simp only [Nat.zero_mul, Nat.zero_add]
    exact rne_mul _ _ (Nat.two_pow_pos _)
  · have hm := mg_ge h
    have hm2 := mg_lt r
    have hl : (mg r).log2 = 52 := by
      have h1 : (mg r).log2 < 53 := (Nat.log2_lt (by omega)).2 (by rw [pow53]; exact hm2)
      have h2 : 52 ≤ (mg r).log2 := (Nat.le_log2 (by omega)).2 (by rw [pow52]; exact hm)
      omega
    have hl2 : (vl r).log2 = 52 + ex r := by unfold vl; rw [log2_mul_pow _ _ (by omega), hl]
    rw [hl2, show 52 + ex r + K - 52 - K = ex r by omega]
    unfold vl
    rw [Nat.mul_assoc, ← Nat.pow_add, rne_mul _ _ (Nat.two_pow_pos _)]
    have := mg_ex r
    omega
theorem word_pos (r : Nat) : dbl.word false r = r := by
  unfold Ieee.Format.word
  exact if_neg (by decide)
/-- What is a float's value is written as that float. -/
theorem near_exact (m K s r : Nat) (e : Int) (hm : m ≠ 0) (hs : e + 1074 + K = s) (hr : r ≤ 9218868437227405312) (hv : m * 2 ^ s = vl r * 2 ^ K) : dbl.nearest false m e = r := by
  rw [near_rung false m K s e hm hs, hv, rungV_exact]
  exact (word_pos _).trans (Nat.min_eq_left hr)
/-- Rounding keeps the order with a float. -/
theorem near_le (m K s r : Nat) (e : Int) (hm : m ≠ 0) (hs : e + 1074 + K = s) (hv : m * 2 ^ s ≤ vl r * 2 ^ K) : dbl.nearest false m e ≤ r := by
  rw [near_rung false m K s e hm hs]
  have := rungV_mono (K := K) hv
  rw [rungV_exact] at this
  exact Nat.le_trans (Nat.le_of_eq (word_pos _)) (Nat.le_trans (Nat.min_le_left _ _) this)
theorem near_ge (m K s r : Nat) (e : Int) (hm : m ≠ 0) (hs : e + 1074 + K = s) (hr : r ≤ 9218868437227405312) (hv : vl r * 2 ^ K ≤ m * 2 ^ s) : r ≤ dbl.nearest false m e := by
  rw [near_rung false m K s e hm hs]
  have := rungV_mono (K := K) hv
  rw [rungV_exact] at this
  exact Nat.le_trans (Nat.le_min.2 ⟨this, hr⟩) (Nat.le_of_eq (word_pos _).symm)
theorem near_mono (m m' K s s' : Nat) (e e' : Int) (hm : m ≠ 0) (hm' : m' ≠ 0) (hs : e + 1074 + K = s) (hs' : e' + 1074 + K = s') (hv : m * 2 ^ s ≤ m' * 2 ^ s') : dbl.nearest false m e ≤ dbl.nearest false m' e' := by
  rw [near_rung false m K s e hm hs, near_rung false m' K s' e' hm' hs']
  have := rungV_mono (K := K) hv
  refine Nat.le_trans (Nat.le_of_eq (word_pos _)) (Nat.le_trans ?_ (Nat.le_of_eq (word_pos _).symm))
  exact Nat.le_min.2 ⟨Nat.le_trans (Nat.min_le_left _ _) this, Nat.min_le_right _ _⟩
end Go.Proofs.YtpebcphkockkkaaDoor.Hand
