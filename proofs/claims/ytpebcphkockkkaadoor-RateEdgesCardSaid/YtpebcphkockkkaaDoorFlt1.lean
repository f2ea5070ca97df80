/-
  Floats as words: NaNs, their order, rounding to the nearest float. No program.
-/
import Derived.RowKit
import Derived.Laws.Cover2
import Derived.Laws.FloatArith
namespace Go.Proofs.YtpebcphkockkkaaDoor.Hand
open Go.RowKit
set_option linter.unusedSimpArgs false
set_option linter.unusedVariables false
set_option exponentiation.threshold 3000

abbrev dbl : Ieee.Format := Ieee.double
theorem dbl_sw : dbl.signWeight = 9223372036854775808 := by decide +kernel
theorem dbl_bin : dbl.binade = 4503599627370496 := by decide +kernel
theorem dbl_inf : dbl.infRung = 9218868437227405312 := by decide +kernel
theorem dbl_least : dbl.leastPlace = -1074 := by decide +kernel
/-- The word is a NaN. -/
def nanB (b : Nat) : Bool := decide (b % 9223372036854775808 > 9218868437227405312)
theorem read_def (b : Nat) : dbl.read b =
    if b % 9223372036854775808 < 4503599627370496 then .number (b / 9223372036854775808 % 2 == 1) (b % 9223372036854775808) (-1074)
    else if b % 9223372036854775808 < 9218868437227405312 then .number (b / 9223372036854775808 % 2 == 1) (4503599627370496 + b % 9223372036854775808 % 4503599627370496) (-1074 + (b % 9223372036854775808 / 4503599627370496 - 1 : Nat))
    else if b % 9223372036854775808 = 9218868437227405312 then .infinity (b / 9223372036854775808 % 2 == 1)
    else .nan (b / 9223372036854775808 % 2 == 1) (b % 9223372036854775808 - 9218868437227405312) := by
  unfold Ieee.Format.read
  rw [dbl_sw, dbl_bin, dbl_inf, dbl_least]
theorem read_nan {b : Nat} (h : nanB b = true) : ∃ s f, dbl.read b = .nan s f := by
  have h := of_decide_eq_true h
  rw [read_def, if_neg (by omega), if_neg (by omega), if_neg (by omega)]
  exact ⟨_, _, rfl⟩
theorem read_ok {b : Nat} (h : nanB b = false) : (∃ s m e, dbl.read b = .number s m e) ∨ ∃ s, dbl.read b = .infinity s := by
  have h := of_decide_eq_false h
  rw [read_def]
  by_cases h1 : b % 9223372036854775808 < 4503599627370496
  · rw [if_pos h1]; exact .inl ⟨_, _, _, rfl⟩
  · rw [if_neg h1]
    by_cases h2 : b % 9223372036854775808 < 9218868437227405312
    · rw [if_pos h2]; exact .inl ⟨_, _, _, rfl⟩
    · rw [if_neg h2, if_pos (by omega)]; exact .inr ⟨_, rfl⟩
theorem cmp_self (x : Int) : compare x x = Ordering.eq := by rw [Int.compare_eq_eq]
theorem ord_self (b : Nat) : (dbl.order b b != some .eq) = nanB b := by
  unfold Ieee.Format.order
  cases h : nanB b with
  | true =>
    obtain ⟨s, f, e⟩ := read_nan h
    rw [e]; rfl
  | false =>
    rcases read_ok h with ⟨s, m, k, e⟩ | ⟨s, e⟩
    · rw [e]
      show (some (compare _ _) != some Ordering.eq) = false
      rw [cmp_self]; rfl
    · rw [e]
      show (some (compare s.toNat s.toNat) != some Ordering.eq) = false
      cases s <;> rfl
theorem nearest_nan (neg : Bool) (mag : Nat) (place : Int) : nanB (dbl.nearest neg mag place) = false := by
  have hw : ∀ (n : Bool) (r : Nat), r ≤ 9218868437227405312 → nanB (dbl.word n r) = false := by
    intro n r hr
    unfold Ieee.Format.word nanB
    rw [dbl_sw]
    apply decide_eq_false
    cases n
    · rw [if_neg (by simp)]; omega
    · rw [if_pos rfl]; omega
  unfold Ieee.Format.nearest
  dsimp only
  split
  · exact hw _ _ (by omega)
  · refine hw _ _ ?_
    rw [dbl_inf]
    exact Nat.min_le_right _ _
theorem nearest_num {n : Int} : nanB (FloatKind.f64.nearest n) = false := nearest_nan _ _ _
/-- Dividing by what is no nought and no NaN gives a number or an infinity. -/
theorem div_some {x y : Nat} {s : Bool} {m : Nat} {e : Int} (hx : nanB x = false) (hy : dbl.read y = .number s m e) (hm : m ≠ 0) : ∃ r, dbl.div x y = some r ∧ nanB r = false := by
  unfold Ieee.Format.div
  rw [hy]
  rcases read_ok hx with ⟨s', m', k', e'⟩ | ⟨s', e'⟩
  · rw [e']
    simp only [Ieee.Datum.quotient, if_neg hm, Option.map_some]
    exact ⟨_, rfl, nearest_nan _ _ _⟩
  · rw [e']
    refine ⟨_, rfl, ?_⟩
    unfold Ieee.Format.write
    cases (s' ^^ s) <;> decide +kernel
theorem mul_some {x y : Nat} {s : Bool} {m : Nat} {e : Int} (hx : nanB x = false) (hy : dbl.read y = .number s m e) (hm : m ≠ 0) : ∃ r, dbl.mul x y = some r ∧ nanB r = false := by
  unfold Ieee.Format.mul
  rw [hy]
  rcases read_ok hx with ⟨s', m', k', e'⟩ | ⟨s', e'⟩
  · rw [e']
    exact ⟨_, rfl, nearest_nan _ _ _⟩
  · rw [e']
    simp only [Ieee.Datum.product, if_neg hm, Option.map_some]
    refine ⟨_, rfl, ?_⟩
    unfold Ieee.Format.write
    cases (s' ^^ s) <;> decide +kernel

def ex (r : Nat) : Nat := r / 4503599627370496 - 1
def mg (r : Nat) : Nat := r - ex r * 4503599627370496
theorem mg_lt (r : Nat) : mg r < 9007199254740992 := by unfold mg ex; omega
theorem mg_ge {r : Nat} (h : 4503599627370496 ≤ r) : 4503599627370496 ≤ mg r := by unfold mg ex; omega
theorem mg_sub {r : Nat} (h : r < 4503599627370496) : mg r = r ∧ ex r = 0 := by unfold mg ex; omega
theorem mg_norm {r : Nat} (h : 4503599627370496 ≤ r) : 4503599627370496 + r % 4503599627370496 = mg r := by unfold mg ex; omega
theorem mg_ex (r : Nat) : mg r + ex r * 4503599627370496 = r := by unfold mg ex; omega
theorem read_num {b r : Nat} (hr : b % 9223372036854775808 = r) (h : r < 9218868437227405312) : dbl.read b = .number (b / 9223372036854775808 % 2 == 1) (mg r) (-1074 + (ex r : Int)) := by
  rw [read_def, hr]
  by_cases h1 : r < 4503599627370496
  · rw [if_pos h1, (mg_sub h1).1, (mg_sub h1).2]; rfl
  · rw [if_neg h1, if_pos h, mg_norm (by omega)]; rfl
theorem read_inf {b : Nat} (h : b % 9223372036854775808 = 9218868437227405312) : dbl.read b = .infinity (b / 9223372036854775808 % 2 == 1) := by
  rw [read_def, h, if_neg (by omega), if_neg (by omega), if_pos rfl]
def vl (r : Nat) : Nat := mg r * 2 ^ ex r
theorem vl_mono {r s : Nat} (h : r < s) : vl r < vl s := by
  unfold vl
  rcases Nat.lt_or_ge (ex r) (ex s) with h1 | h1
  · have hs : 4503599627370496 ≤ mg s := by
      apply mg_ge
      unfold ex at h1; omega
    have h2 : mg r * 2 ^ ex r < 9007199254740992 * 2 ^ ex r := Nat.mul_lt_mul_of_pos_right (mg_lt r) (Nat.two_pow_pos _)
    have h3 : 2 ^ (ex r + 1) ≤ 2 ^ ex s := Nat.pow_le_pow_right (by decide) h1
    have h4 : 4503599627370496 * 2 ^ ex s ≤ mg s * 2 ^ ex s := Nat.mul_le_mul_right _ hs
    rw [Nat.pow_succ] at h3
    omega
  · have e : ex r = ex s := by unfold ex at *; omega
    rw [e]
    apply Nat.mul_lt_mul_of_pos_right _ (Nat.two_pow_pos _)
    have := mg_ex r
    have := mg_ex s
    rw [e] at *
    omega
theorem vl_le {r s : Nat} (h : r ≤ s) : vl r ≤ vl s := by
  rcases Nat.lt_or_ge r s with g | g
  · exact Nat.le_of_lt (vl_mono g)
  · rw [show r = s by omega]; exact Nat.le_refl _
/-- A float's place among the floats. -/
def key (b : Nat) : Int := if b / 9223372036854775808 % 2 == 1 then -((b % 9223372036854775808 : Nat) : Int) else ((b % 9223372036854775808 : Nat) : Int)
theorem signed_eq (s : Bool) (m u : Nat) : Ieee.signed s m u = if s then -((m * 2 ^ u : Nat) : Int) else ((m * 2 ^ u : Nat) : Int) := by
  unfold Ieee.signed
  rw [Nat.shiftLeft_eq]
theorem cmp_iff {x y a b : Int} (h1 : x < y ↔ a < b) (h2 : x = y ↔ a = b) : compare x y = compare a b := by
  rcases Int.lt_trichotomy x y with h | h | h
  · rw [Int.compare_eq_lt.2 h, Int.compare_eq_lt.2 (h1.1 h)]
  · rw [Int.compare_eq_eq.2 h, Int.compare_eq_eq.2 (h2.1 h)]
  · have : b < a := by
      rcases Int.lt_trichotomy a b with g | g | g
      · have := h1.2 g; omega
      · have := h2.2 g; omega
      · exact g
    rw [Int.compare_eq_gt.2 h, Int.compare_eq_gt.2 this]
theorem sv_iff (s t : Bool) (r q : Nat) (c : Nat) (hc : 0 < c) (A B : Nat) (hA : A * c = vl r) (hB : B * c = vl q) :
    compare (if s then -(A : Int) else (A : Int)) (if t then -(B : Int) else (B : Int)) = compare (if s then -(r : Int) else (r : Int)) (if t then -(q : Int) else (q : Int)) := by
  have v0 : vl 0 = 0 := by decide +kernel
  have lt : A < B ↔ r < q := by
    constructor
    · intro h
      have : A * c < B * c := Nat.mul_lt_mul_of_pos_right h hc
      rw [hA, hB] at this
      rcases Nat.lt_or_ge r q with g | g
      · exact g
      · have := vl_le g; omega
    · intro h
      have := vl_mono h
      rw [← hA, ← hB] at this
      exact Nat.lt_of_mul_lt_mul_right this
  have gt : B < A ↔ q < r := by
    constructor
    · intro h
      have : B * c < A * c := Nat.mul_lt_mul_of_pos_right h hc
      rw [hA, hB] at this
      rcases Nat.lt_or_ge q r with g | g
      · exact g
      · have := vl_le g; omega
    · intro h
      have := vl_mono h
      rw [← hA, ← hB] at this
      exact Nat.lt_of_mul_lt_mul_right this
  have zA : 0 < A ↔ 0 < r := by
    constructor
    · intro h
      have : 0 * c < A * c := Nat.mul_lt_mul_of_pos_right h hc
      rw [hA] at this
      rcases Nat.lt_or_ge 0 r with g | g
      · exact g
      · rw [show r = 0 by omega, v0] at this; omega
    · intro h
      have := vl_mono h
      rw [v0, ← hA] at this
      exact Nat.pos_of_mul_pos_right this
  have zB : 0 < B ↔ 0 < q := by
    constructor
    · intro h
      have : 0 * c < B * c := Nat.mul_lt_mul_of_pos_right h hc
      rw [hB] at this
      rcases Nat.lt_or_ge 0 q with g | g
      · exact g
      · rw [show q = 0 by omega, v0] at this; omega
    · intro h
      have := vl_mono h
      rw [v0, ← hB] at this
      exact Nat.pos_of_mul_pos_right this
  apply cmp_iff
  · cases s <;> cases t <;> simp only [if_true, if_false, Bool.false_eq_true] <;> omega
  · cases s <;> cases t <;> simp only [if_true, if_false, Bool.false_eq_true] <;> omega
theorem ord_num {a b r q : Nat} (ha : a % 9223372036854775808 = r) (hb : b % 9223372036854775808 = q) (h1 : r < 9218868437227405312) (h2 : q < 9218868437227405312) : dbl.order a b = some (compare (key a) (key b)) := by
  unfold Ieee.Format.order key
  rw [read_num ha h1, read_num hb h2, ha, hb]
  generalize (a / 9223372036854775808 % 2 == 1) = s
  generalize (b / 9223372036854775808 % 2 == 1) = t
  show some (compare (Ieee.signed s (mg r) (-1074 + (ex r : Int) - min (-1074 + (ex r : Int)) (-1074 + (ex q : Int))).toNat) (Ieee.signed t (mg q) (-1074 + (ex q : Int) - min (-1074 + (ex r : Int)) (-1074 + (ex q : Int))).toNat)) = _
  rw [signed_eq, signed_eq]
  have e1 : (-1074 + (ex r : Int) - min (-1074 + (ex r : Int)) (-1074 + (ex q : Int))).toNat = ex r - min (ex r) (ex q) := by omega
  have e2 : (-1074 + (ex q : Int) - min (-1074 + (ex r : Int)) (-1074 + (ex q : Int))).toNat = ex q - min (ex r) (ex q) := by omega
  rw [e1, e2]
  refine congrArg some (sv_iff s t r q (2 ^ min (ex r) (ex q)) (Nat.two_pow_pos _) _ _ ?_ ?_)
  · rw [Nat.mul_assoc, ← Nat.pow_add, show ex r - min (ex r) (ex q) + min (ex r) (ex q) = ex r by omega]; rfl
  · rw [Nat.mul_assoc, ← Nat.pow_add, show ex q - min (ex r) (ex q) + min (ex r) (ex q) = ex q by omega]; rfl
theorem ord_key {a b : Nat} (ha : nanB a = false) (hb : nanB b = false) : dbl.order a b = some (compare (key a) (key b)) := by
  have ha := of_decide_eq_false ha
  have hb := of_decide_eq_false hb
  rcases Nat.lt_or_ge (a % 9223372036854775808) 9218868437227405312 with h1 | h1
  · rcases Nat.lt_or_ge (b % 9223372036854775808) 9218868437227405312 with h2 | h2
    · exact ord_num rfl rfl h1 h2
    · have e : b % 9223372036854775808 = 9218868437227405312 := by omega
      unfold Ieee.Format.order key
      rw [read_num rfl h1, read_inf e, e]
      generalize (a / 9223372036854775808 % 2 == 1) = s
      generalize (b / 9223372036854775808 % 2 == 1) = t
      generalize a % 9223372036854775808 = r at *
      cases t
      · show some Ordering.lt = _
        rw [Int.compare_eq_lt.2 (by cases s <;> simp <;> omega)]
      · show some Ordering.gt = _
        rw [Int.compare_eq_gt.2 (by cases s <;> simp <;> omega)]
  · have e : a % 9223372036854775808 = 9218868437227405312 := by omega
    rcases Nat.lt_or_ge (b % 9223372036854775808) 9218868437227405312 with h2 | h2
    · unfold Ieee.Format.order key
      rw [read_num rfl h2, read_inf e, e]
      generalize (a / 9223372036854775808 % 2 == 1) = s
      generalize (b / 9223372036854775808 % 2 == 1) = t
      generalize b % 9223372036854775808 = r at *
      cases s
      · show some Ordering.gt = _
        rw [Int.compare_eq_gt.2 (by cases t <;> simp <;> omega)]
      · show some Ordering.lt = _
        rw [Int.compare_eq_lt.2 (by cases t <;> simp <;> omega)]
    · have e2 : b % 9223372036854775808 = 9218868437227405312 := by omega
      unfold Ieee.Format.order key
      rw [read_inf e, read_inf e2, e, e2]
      generalize (a / 9223372036854775808 % 2 == 1) = s
      generalize (b / 9223372036854775808 % 2 == 1) = t
      cases s <;> cases t <;> rfl
theorem ord_nan {a b : Nat} (h : nanB a = true ∨ nanB b = true) : dbl.order a b = none := by
  unfold Ieee.Format.order
  rcases h with h | h
  · obtain ⟨s, f, e⟩ := read_nan h
    rw [e]; rfl
  · obtain ⟨s, f, e⟩ := read_nan h
    rw [e]
    cases dbl.read a <;> rfl

/-- A quotient rounded to the nearest whole number, to the even one of two. -/
def rne (n g : Nat) : Nat := n / g + (if g < 2 * (n % g) ∨ (g = 2 * (n % g) ∧ n / g % 2 = 1) then 1 else 0)
theorem more_eq (g r q : Nat) : (decide (g < 2 * r) || (g == 2 * r && q % 2 == 1)).toNat = if g < 2 * r ∨ (g = 2 * r ∧ q % 2 = 1) then 1 else 0 := by
  by_cases h1 : g < 2 * r
  · simp [h1]
  · by_cases h2 : g = 2 * r
    · by_cases h3 : q % 2 = 1 <;> simp [h1, h2, h3]
    · simp [h1, h2]
theorem log_lt (n : Nat) : n < 2 ^ (n.log2 + 1) := Nat.lt_log2_self
theorem cut_eq (neg : Bool) (n drop : Nat) : Ieee.Toward.even.cut neg n drop = rne n (2 ^ drop) := by
  unfold Ieee.Toward.cut
  dsimp only
  rw [Nat.shiftLeft_eq, Nat.one_mul]
  rcases Nat.lt_or_ge (n.log2 + 2) drop with h | h
  · rw [Nat.min_eq_right (Nat.le_of_lt h), more_eq]
    have h1 := log_lt n
    have h2 : 2 ^ (n.log2 + 2) = 2 * 2 ^ (n.log2 + 1) := by rw [Nat.pow_succ 2 (n.log2 + 1)]; omega
    have h3 : 2 ^ (n.log2 + 2) < 2 ^ drop := Nat.pow_lt_pow_right (by decide) h
    unfold rne
    rw [Nat.div_eq_of_lt (by omega), Nat.mod_eq_of_lt (show n < 2 ^ (n.log2 + 2) by omega), Nat.div_eq_of_lt (show n < 2 ^ drop by omega), Nat.mod_eq_of_lt (show n < 2 ^ drop by omega), if_neg (by omega), if_neg (by omega)]
  · rw [Nat.min_eq_left h, more_eq]; rfl
theorem rne_mono {n m g : Nat} (hg : 0 < g) (h : n ≤ m) : rne n g ≤ rne m g := by
  unfold rne
  have h1 : n / g ≤ m / g := Nat.div_le_div_right h
  have e1 := Nat.div_add_mod n g
  have e2 := Nat.div_add_mod m g
  rcases Nat.lt_or_ge (n / g) (m / g) with q | q
  · split <;> split <;> omega
  · have e : n / g = m / g := by omega
    have hr : n % g ≤ m % g := by rw [e] at e1; omega
    clear e1 e2
    rw [e]
    split <;> split <;> omega
theorem rne_scale (n g c : Nat) (hc : 0 < c) : rne (n * c) (g * c) = rne n g := by
  unfold rne
  rw [Nat.mul_div_mul_right _ _ hc, Nat.mul_mod_mul_right]
  have h1 : g * c < 2 * (n % g * c) ↔ g < 2 * (n % g) := by
    rw [← Nat.mul_assoc]
    exact Nat.mul_lt_mul_right hc
  have h2 : g * c = 2 * (n % g * c) ↔ g = 2 * (n % g) := by
    rw [← Nat.mul_assoc]
    exact ⟨fun h => Nat.eq_of_mul_eq_mul_right hc h, fun h => by rw [← h]⟩
  simp only [h1, h2]
theorem rne_mul (q g : Nat) (hg : 0 < g) : rne (q * g) g = q := by
  unfold rne
  rw [Nat.mul_div_cancel _ hg, Nat.mul_mod_left, if_neg (by omega)]; rfl
theorem rne_lt {n g b : Nat} (hg : 0 < g) (h : n < b * g) : rne n g ≤ b := by
  have := (Nat.div_lt_iff_lt_mul hg).2 h
  unfold rne
  split <;> omega
theorem rne_ge {n g : Nat} : n / g ≤ rne n g := by unfold rne; omega
/-- The rung of V / 2 ^ (1074 + K). -/
def rungV (K V : Nat) : Nat := (V.log2 - 52 - K) * 4503599627370496 + rne V (2 ^ (V.log2 - 52 - K + K))
theorem log2_mul_pow (m s : Nat) (hm : m ≠ 0) : (m * 2 ^ s).log2 = m.log2 + s := by
  have h0 : m * 2 ^ s ≠ 0 := Nat.mul_ne_zero hm (Nat.pos_iff_ne_zero.1 (Nat.two_pow_pos s))
  have h1 : m.log2 + s ≤ (m * 2 ^ s).log2 := (Nat.le_log2 h0).2 (by rw [Nat.pow_add]; exact Nat.mul_le_mul_right _ (Nat.log2_self_le hm))
  have h2 : (m * 2 ^ s).log2 < m.log2 + 1 + s := (Nat.log2_lt h0).2 (by rw [Nat.pow_add]; exact Nat.mul_lt_mul_of_pos_right (log_lt m) (Nat.two_pow_pos _))
  omega
theorem near_rung (neg : Bool) (m K s : Nat) (e : Int) (hm : m ≠ 0) (hs : e + 1074 + K = s) : dbl.nearest neg m e = dbl.word neg (min (rungV K (m * 2 ^ s)) 9218868437227405312) := by
  unfold Ieee.Format.nearest
  rw [if_neg hm, dbl_least, dbl_bin, dbl_inf]
  show dbl.word neg (min ((max (e + (m.log2 : Int) - 52) (-1074) - -1074).toNat * 4503599627370496 + Ieee.Toward.even.cut neg (m <<< (e - max (e + (m.log2 : Int) - 52) (-1074)).toNat) (max (e + (m.log2 : Int) - 52) (-1074) - e).toNat) 9218868437227405312) = _
  rw [cut_eq]
  unfold rungV
  rw [log2_mul_pow m s hm]
  have e1 : (max (e + (m.log2 : Int) - 52) (-1074) - -1074).toNat = m.log2 + s - 52 - K := by omega
  rw [e1]
  congr 3
  generalize ht : m.log2 + s - 52 - K = t at *
  have e2 : max (e + (m.log2 : Int) - 52) (-1074) = (t : Int) - 1074 := by omega
  rw [e2, Nat.shiftLeft_eq]
  rcases Nat.lt_or_ge (t + K) s with h | h
  · have f1 : (e - ((t : Int) - 1074)).toNat = s - (t + K) := by omega
    have f2 : ((t : Int) - 1074 - e).toNat = 0 := by omega
    rw [f1, f2]
    have := rne_scale (m * 2 ^ (s - (t + K))) (2 ^ 0) (2 ^ (t + K)) (Nat.two_pow_pos _)
    rw [Nat.mul_assoc, ← Nat.pow_add, ← Nat.pow_add, show s - (t + K) + (t + K) = s by omega, Nat.zero_add] at this
    exact this.symm
  · have f1 : (e - ((t : Int) - 1074)).toNat = 0 := by omega
    have f2 : ((t : Int) - 1074 - e).toNat = t + K - s := by omega
    rw [f1, f2, Nat.pow_zero, Nat.mul_one]
    have := rne_scale m (2 ^ (t + K - s)) (2 ^ s) (Nat.two_pow_pos _)
    rw [← Nat.pow_add, show t + K - s + s = t + K by omega] at this
    exact this.symm
theorem pow52 : (2 : Nat) ^ 52 = 4503599627370496 := by decide
theorem pow53 : (2 : Nat) ^ 53 = 9007199254740992 := by decide
theorem rungV_mono {K V W : Nat} (h : V ≤ W) : rungV K V ≤ rungV K W := by
  unfold rungV
  rcases Nat.eq_zero_or_pos V with h0 | h0
  · subst h0
    have : rne 0 (2 ^ (Nat.log2 0 - 52 - K + K)) = 0 := by
      unfold rne; rw [Nat.zero_div, Nat.zero_mod, if_neg (by have := Nat.two_pow_pos (Nat.log2 0 - 52 - K + K); omega)]
    rw [this]
    have : Nat.log2 0 - 52 - K = 0 := by have : Nat.log2 0 = 0 := by decide
                                         omega
    rw [this]; omega
  have hl : V.log2 ≤ W.log2 := by
    have h1 := Nat.log2_self_le (show V ≠ 0 by omega)
    have h2 := log_lt W
    have : 2 ^ V.log2 < 2 ^ (W.log2 + 1) := by omega
    have := (Nat.pow_lt_pow_iff_right (by decide : 1 < 2)).1 this
    omega
  generalize ht : V.log2 - 52 - K = t at *
  generalize hu : W.log2 - 52 - K = u at *
  rcases Nat.lt_or_ge t u with q | q
  · have g1 : rne V (2 ^ (t + K)) ≤ 9007199254740992 := by
      apply rne_lt (Nat.two_pow_pos _)
      have h1 := log_lt V
      have h2 : 2 ^ (V.log2 + 1) ≤ 2 ^ (53 + (t + K)) := Nat.pow_le_pow_right (by decide) (by omega)
      have h3 : (2 : Nat) ^ (53 + (t + K)) = 9007199254740992 * 2 ^ (t + K) := by rw [Nat.pow_add, pow53]
      omega
    have g2 : 4503599627370496 ≤ rne W (2 ^ (u + K)) := by
      refine Nat.le_trans ?_ rne_ge
      rw [Nat.le_div_iff_mul_le (Nat.two_pow_pos _)]
      have h1 := Nat.log2_self_le (show W ≠ 0 by omega)
      have e : W.log2 = 52 + (u + K) := by omega
      rw [e, Nat.pow_add, pow52] at h1
      exact h1
    omega
  · have e : t = u := by omega
    subst e
    have := rne_mono (Nat.two_pow_pos (t + K)) h
    omega
theorem rungV_exact (K r : Nat) : rungV K (vl r * 2 ^ K) = r := by
  rcases Nat.eq_zero_or_pos r with h0 | h0
  · subst h0
    have v0 : vl 0 = 0 := by decide +kernel
    rw [v0, Nat.zero_mul]
    have := rungV_mono (K := K) (V := 0) (W := 0) (Nat.le_refl _)
    unfold rungV
    have l0 : Nat.log2 0 = 0 := by decide
    rw [l0, show 0 - 52 - K = 0 by omega]
    unfold rne
    rw [Nat.zero_div, Nat.zero_mod, if_neg (by have := Nat.two_pow_pos (0 + K); omega)]
  unfold rungV
  have hv : vl r ≠ 0 := by
    have v0 : vl 0 = 0 := by decide +kernel
    have := vl_mono h0; omega
  rw [log2_mul_pow _ _ hv]
  rcases Nat.lt_or_ge r 4503599627370496 with h | h
  · have e := mg_sub h
    have ev : vl r = r := by unfold vl; rw [e.1, e.2]; simp
    rw [ev] at *
    have hl : r.log2 < 52 := (Nat.log2_lt (by omega)).2 (by rw [pow52]; exact h)
    rw [show r.log2 + K - 52 - K = 0 by omega]
    simp only [Nat.zero_mul, Nat.zero_add]
    exact rne_mul _ _ (Nat.two_pow_pos _)
  · have hm := mg_ge h
    have hm2 := mg_lt r
    have hl : (mg r).log2 = 52 := by
      have h1 : (mg r).log2 < 53 := (Nat.log2_lt (by omega)).2 (by rw [pow53]; exact hm2)
      have h2 : 52 ≤ (mg r).log2 := (Nat.le_log2 (by omega)).2 (by rw [pow52]; exact hm)
      omega
    have hl2 : (vl r).log2 = 52 + ex r := by unfold vl; rw [log2_mul_pow _ _ (by omega), hl]
    rw [hl2, show 52 + ex r + K - 52 - K = ex r by omega]
    unfold vl
    rw [Nat.mul_assoc, ← Nat.pow_add, rne_mul _ _ (Nat.two_pow_pos _)]
    have := mg_ex r
    omega
theorem word_pos (r : Nat) : dbl.word false r = r := by
  unfold Ieee.Format.word
  exact if_neg (by decide)
/-- What is a float's value is written as that float. -/
theorem near_exact (m K s r : Nat) (e : Int) (hm : m ≠ 0) (hs : e + 1074 + K = s) (hr : r ≤ 9218868437227405312) (hv : m * 2 ^ s = vl r * 2 ^ K) : dbl.nearest false m e = r := by
  rw [near_rung false m K s e hm hs, hv, rungV_exact]
  exact (word_pos _).trans (Nat.min_eq_left hr)
/-- Rounding keeps the order with a float. -/
theorem near_le (m K s r : Nat) (e : Int) (hm : m ≠ 0) (hs : e + 1074 + K = s) (hv : m * 2 ^ s ≤ vl r * 2 ^ K) : dbl.nearest false m e ≤ r := by
  rw [near_rung false m K s e hm hs]
  have := rungV_mono (K := K) hv
  rw [rungV_exact] at this
  exact Nat.le_trans (Nat.le_of_eq (word_pos _)) (Nat.le_trans (Nat.min_le_left _ _) this)
theorem near_ge (m K s r : Nat) (e : Int) (hm : m ≠ 0) (hs : e + 1074 + K = s) (hr : r ≤ 9218868437227405312) (hv : vl r * 2 ^ K ≤ m * 2 ^ s) : r ≤ dbl.nearest false m e := by
  rw [near_rung false m K s e hm hs]
  have := rungV_mono (K := K) hv
  rw [rungV_exact] at this
  exact Nat.le_trans (Nat.le_min.2 ⟨this, hr⟩) (Nat.le_of_eq (word_pos _).symm)
theorem near_mono (m m' K s s' : Nat) (e e' : Int) (hm : m ≠ 0) (hm' : m' ≠ 0) (hs : e + 1074 + K = s) (hs' : e' + 1074 + K = s') (hv : m * 2 ^ s ≤ m' * 2 ^ s') : dbl.nearest false m e ≤ dbl.nearest false m' e' := by
  rw [near_rung false m K s e hm hs, near_rung false m' K s' e' hm' hs']
  have := rungV_mono (K := K) hv
  refine Nat.le_trans (Nat.le_of_eq (word_pos _)) (Nat.le_trans ?_ (Nat.le_of_eq (word_pos _).symm))
  exact Nat.le_min.2 ⟨Nat.le_trans (Nat.min_le_left _ _) this, Nat.min_le_right _ _⟩
end Go.Proofs.YtpebcphkockkkaaDoor.Hand
