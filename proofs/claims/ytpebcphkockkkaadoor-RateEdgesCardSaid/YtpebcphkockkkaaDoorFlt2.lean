/-
  Floats: times 2 ^ 20 and 1000, made whole, fractions. What rate.Of comes to. No program.
-/
import Derived.Test.YtpebcphkockkkaaDoorFlt1
import Derived.Lib.TrailingZeros
namespace Go.Proofs.YtpebcphkockkkaaDoor.Hand
open Go.RowKit
set_option linter.unusedSimpArgs false
set_option linter.unusedVariables false
set_option exponentiation.threshold 3000

theorem prod_pos {x y : Nat} (hx : x < 9218868437227405312) (hy : y < 9218868437227405312) : (dbl.read x).product (dbl.read y) = some (.number false (mg x * mg y) (-1074 + (ex x : Int) + (-1074 + (ex y : Int)))) := by
  rw [read_num (r := x) (by omega) hx, read_num (r := y) (by omega) hy]
  have e1 : (x / 9223372036854775808 % 2 == 1) = false := by rw [Nat.div_eq_of_lt (by omega)]; rfl
  have e2 : (y / 9223372036854775808 % 2 == 1) = false := by rw [Nat.div_eq_of_lt (by omega)]; rfl
  rw [e1, e2]; rfl
theorem c20 : mg 4697254411347427328 = 4503599627370496 ∧ ex 4697254411347427328 = 1042 := by decide +kernel
theorem up20 {r : Nat} (h : 4503599627370496 ≤ r) : mg (r + 90071992547409920) = mg r ∧ ex (r + 90071992547409920) = ex r + 20 := by unfold mg ex; omega
/-- A normal float, times 2 ^ 20. -/
theorem mul20 {r : Nat} (h1 : 4503599627370496 ≤ r) (h2 : r ≤ 4652218415073722368) : dbl.mul r 4697254411347427328 = some (r + 90071992547409920) := by
  unfold Ieee.Format.mul
  rw [prod_pos (by omega) (by omega), c20.1, c20.2, Option.map_some]
  have hm : mg r * 4503599627370496 ≠ 0 := by have := mg_ge h1; omega
  refine congrArg some (near_exact _ 32 (ex r) (r + 90071992547409920) _ hm (by omega) (by omega) ?_)
  obtain ⟨e1, e2⟩ := up20 h1
  unfold vl
  rw [e1, e2, Nat.mul_assoc, Nat.mul_assoc, ← Nat.pow_add, ← pow52, ← Nat.pow_add]
  congr 2; omega
theorem mul20_zero : dbl.mul 0 4697254411347427328 = some 0 := by decide +kernel
theorem mul20_small {r : Nat} (h0 : 0 < r) (h1 : r < 4503599627370496) : ∃ y, dbl.mul r 4697254411347427328 = some y ∧ y ≤ 94575592174780416 := by
  unfold Ieee.Format.mul
  rw [prod_pos (by omega) (by omega), c20.1, c20.2, Option.map_some]
  refine ⟨_, rfl, ?_⟩
  obtain ⟨e1, e2⟩ := mg_sub h1
  rw [e1, e2]
  have hv : vl 94575592174780416 = 2 ^ 72 := by decide +kernel
  refine near_le _ 32 0 _ _ (by omega) (by omega) ?_
  rw [hv, Nat.pow_zero, Nat.mul_one, ← Nat.pow_add]
  have : (2 : Nat) ^ (72 + 32) = 4503599627370496 * 4503599627370496 := by decide +kernel
  rw [this]
  exact Nat.mul_le_mul_right _ (Nat.le_of_lt h1)
theorem cut_zero (neg : Bool) (n drop : Nat) : Ieee.Toward.zero.cut neg n drop = n / 2 ^ drop := by
  unfold Ieee.Toward.cut
  dsimp only
  rw [Nat.shiftLeft_eq, Nat.one_mul]
  show n / 2 ^ min drop (n.log2 + 2) + 0 = _
  rcases Nat.lt_or_ge (n.log2 + 2) drop with h | h
  · rw [Nat.min_eq_right (Nat.le_of_lt h)]
    have h1 := log_lt n
    have h2 : 2 ^ (n.log2 + 2) = 2 * 2 ^ (n.log2 + 1) := by rw [Nat.pow_succ 2 (n.log2 + 1)]; omega
    have h3 : 2 ^ (n.log2 + 2) < 2 ^ drop := Nat.pow_lt_pow_right (by decide) h
    rw [Nat.div_eq_of_lt (by omega), Nat.div_eq_of_lt (by omega)]
  · rw [Nat.min_eq_left h]; rfl
/-- A float that is not below nought, made whole. -/
theorem whole_pos {x : Nat} (h : x < 9218868437227405312) : (dbl.read x).toInt .zero = some ((vl x / 2 ^ 1074 : Nat) : Int) := by
  rw [read_num (r := x) (by omega) h]
  have e1 : (x / 9223372036854775808 % 2 == 1) = false := by rw [Nat.div_eq_of_lt (by omega)]; rfl
  rw [e1]
  show some (Ieee.signed false (Ieee.Toward.zero.cut false (mg x <<< (-1074 + (ex x : Int)).toNat) (-(-1074 + (ex x : Int))).toNat) 0) = _
  rw [cut_zero, signed_eq, Nat.shiftLeft_eq, Nat.pow_zero, Nat.mul_one]
  unfold vl
  simp only [Bool.false_eq_true, if_false, Option.some.injEq]
  congr 1
  rcases Nat.lt_or_ge (ex x) 1074 with h1 | h1
  · have a1 : (-1074 + (ex x : Int)).toNat = 0 := by omega
    have a2 : (-(-1074 + (ex x : Int))).toNat = 1074 - ex x := by omega
    rw [a1, a2, Nat.pow_zero, Nat.mul_one]
    have := Nat.mul_div_mul_right (mg x) (2 ^ (1074 - ex x)) (Nat.two_pow_pos (ex x))
    rw [← Nat.pow_add, show 1074 - ex x + ex x = 1074 by omega] at this
    exact this.symm
  · have a1 : (-1074 + (ex x : Int)).toNat = ex x - 1074 := by omega
    have a2 : (-(-1074 + (ex x : Int))).toNat = 0 := by omega
    rw [a1, a2, Nat.pow_zero, Nat.div_one]
    have := Nat.mul_div_cancel (mg x * 2 ^ (ex x - 1074)) (Nat.two_pow_pos 1074)
    rw [Nat.mul_assoc, ← Nat.pow_add, show ex x - 1074 + 1074 = ex x by omega] at this
    exact this.symm
/-- What rate.Of rounds to: the float times 2 ^ 20, to the nearest, to the even one. -/
def nOf (r : Nat) : Nat := rne (mg r) (2 ^ (1054 - ex r))
theorem nOf_le {r : Nat} (h : r ≤ 4652218415073722368) : nOf r ≤ 1073741824 := by
  unfold nOf
  rcases Nat.lt_or_ge r 4652218415073722368 with g | g
  · apply rne_lt (Nat.two_pow_pos _)
    have h1 := mg_lt r
    have h2 : (2 : Nat) ^ 23 ≤ 2 ^ (1054 - ex r) := Nat.pow_le_pow_right (by decide) (by unfold ex; omega)
    have h3 : (2 : Nat) ^ 23 = 8388608 := by decide
    omega
  · rw [show r = 4652218415073722368 by omega]
    decide +kernel

def byOf (n : Nat) : Nat := min (Lib.ctz 64 n) 20
def ofV (b : Nat) : Int × Int × Int :=
  if nanB b = true then (0, 0, 10) else if 9223372036854775808 ≤ b then (0, 0, 11) else if 4652218415073722368 < b then (0, 0, 1)
  else if nOf b = 0 ∧ 0 < b then (0, 0, 1) else (((nOf b / 2 ^ byOf (nOf b) : Nat) : Int), 2 ^ (20 - byOf (nOf b)), 0)
theorem byOf_le (n : Nat) : byOf n ≤ 20 := Nat.min_le_right _ _
theorem byOf_spec {n : Nat} (h0 : 0 < n) (h1 : n < 18446744073709551616) : ∃ m, n = 2 ^ byOf n * m ∧ (byOf n = 20 ∨ m % 2 = 1) := by
  obtain ⟨m, e, hlt⟩ := Lib.ctzFrom_spec 64 n h0 h1
  have hc : Lib.ctz 64 n = Lib.ctzFrom 64 n := if_neg (by omega)
  unfold byOf
  rw [hc]
  generalize Lib.ctzFrom 64 n = c at *
  rcases Nat.lt_or_ge c 20 with g | g
  · rw [Nat.min_eq_left (Nat.le_of_lt g)]
    exact ⟨2 * m + 1, e, .inr (by omega)⟩
  · rw [Nat.min_eq_right g]
    refine ⟨2 ^ (c - 20) * (2 * m + 1), ?_, .inl rfl⟩
    rw [← Nat.mul_assoc, ← Nat.pow_add, show 20 + (c - 20) = c by omega]; exact e
theorem least_parts {n : Nat} (h : n ≤ 1073741824) : ∃ k, k ≤ 20 ∧ 20 - byOf n = k ∧ n / 2 ^ byOf n ≤ 1024 * 2 ^ k ∧ (k = 0 ∨ (n / 2 ^ byOf n) % 2 = 1) ∧ n / 2 ^ byOf n * 2 ^ (20 - k) = n := by
  have hb := byOf_le n
  refine ⟨20 - byOf n, by omega, rfl, ?_, ?_, ?_⟩
  · rw [Nat.div_le_iff_le_mul_add_pred (Nat.two_pow_pos _)]
    have : 2 ^ byOf n * (1024 * 2 ^ (20 - byOf n)) = 1073741824 := by
      rw [Nat.mul_left_comm, ← Nat.pow_add, show byOf n + (20 - byOf n) = 20 by omega]
    omega
  · rcases Nat.eq_zero_or_pos n with h0 | h0
    · subst h0; left; decide +kernel
    · obtain ⟨m, e, h2⟩ := byOf_spec h0 (by omega)
      rcases h2 with h2 | h2
      · left; omega
      · right
        conv => lhs; lhs; lhs; rw [e]
        rw [Nat.mul_div_cancel_left _ (Nat.two_pow_pos _)]; exact h2
  · rw [show 20 - (20 - byOf n) = byOf n by omega]
    rcases Nat.eq_zero_or_pos n with h0 | h0
    · subst h0; rw [Nat.zero_div, Nat.zero_mul]
    · obtain ⟨m, e, _⟩ := byOf_spec h0 (by omega)
      conv => lhs; lhs; lhs; rw [e]
      rw [Nat.mul_div_cancel_left _ (Nat.two_pow_pos _), Nat.mul_comm]; exact e.symm
/-- Rounded in two steps, as the document does it. -/
theorem rne_parts (m d : Nat) (hd : 1 ≤ d) : rne m (2 ^ d) = m / 2 ^ d + (if m % 2 ^ d > 2 ^ (d - 1) ∨ (m % 2 ^ d = 2 ^ (d - 1) ∧ m / 2 ^ d % 2 = 1) then 1 else 0) := by
  unfold rne
  obtain ⟨c, rfl⟩ : ∃ c, d = c + 1 := ⟨d - 1, by omega⟩
  have : (2 : Nat) ^ (c + 1) = 2 * 2 ^ c := by rw [Nat.pow_succ]; omega
  rw [show c + 1 - 1 = c by omega]
  have e1 : 2 ^ (c + 1) < 2 * (m % 2 ^ (c + 1)) ↔ m % 2 ^ (c + 1) > 2 ^ c := by omega
  have e2 : 2 ^ (c + 1) = 2 * (m % 2 ^ (c + 1)) ↔ m % 2 ^ (c + 1) = 2 ^ c := by omega
  simp only [e1, e2]
theorem nOf_zero {r : Nat} (h : r < 4512606826625236992) : nOf r = 0 := by
  unfold nOf rne
  have h1 := mg_lt r
  have h2 : (2 : Nat) ^ 54 ≤ 2 ^ (1054 - ex r) := Nat.pow_le_pow_right (by decide) (by unfold ex; omega)
  have h3 : (2 : Nat) ^ 54 = 18014398509481984 := by decide
  rw [Nat.div_eq_of_lt (by omega), Nat.mod_eq_of_lt (by omega), if_neg (by omega)]

/-- A whole number of 53 bits at most, times a power of two, is a float. -/
theorem rep {m s : Nat} (hm : m ≠ 0) (hb : m < 9007199254740992) (hs : 52 ≤ s + m.log2) (ht : s + m.log2 ≤ 2096) : ∃ r, vl r = m * 2 ^ s ∧ 4503599627370496 ≤ r ∧ r < 9218868437227405312 ∧ r < (s + m.log2 - 50) * 4503599627370496 ∧ ex r = s + m.log2 - 52 := by
  have hl : m.log2 < 53 := (Nat.log2_lt hm).2 (by rw [pow53]; exact hb)
  have h1 := Nat.log2_self_le hm
  have h2 := log_lt m
  generalize hL : m.log2 = L at *
  have p : 2 ^ L * 2 ^ (52 - L) = 4503599627370496 := by rw [← Nat.pow_add, show L + (52 - L) = 52 by omega, pow52]
  have a1 : 4503599627370496 ≤ m * 2 ^ (52 - L) := by rw [← p]; exact Nat.mul_le_mul_right _ h1
  have a2 : m * 2 ^ (52 - L) < 9007199254740992 := by
    have : m * 2 ^ (52 - L) < 2 ^ (L + 1) * 2 ^ (52 - L) := Nat.mul_lt_mul_of_pos_right h2 (Nat.two_pow_pos _)
    rw [Nat.pow_succ, Nat.mul_right_comm, p] at this
    omega
  have e : m * 2 ^ (52 - L) * 2 ^ (s + L - 52) = m * 2 ^ s := by rw [Nat.mul_assoc, ← Nat.pow_add, show 52 - L + (s + L - 52) = s by omega]
  generalize m * 2 ^ (52 - L) = M at *
  refine ⟨M + (s + L - 52) * 4503599627370496, ?_, by omega, by omega, by omega, ?_⟩
  · have f1 : ex (M + (s + L - 52) * 4503599627370496) = s + L - 52 := by
      show (M + (s + L - 52) * 4503599627370496) / 4503599627370496 - 1 = s + L - 52
      omega
    have f2 : mg (M + (s + L - 52) * 4503599627370496) = M := by unfold mg; rw [f1]; omega
    unfold vl
    rw [f1, f2]; exact e
  · show (M + (s + L - 52) * 4503599627370496) / 4503599627370496 - 1 = s + L - 52
    omega
theorem nearest_nat (n : Nat) : FloatKind.f64.nearest (n : Int) = dbl.nearest false n 0 := by
  show dbl.nearest (decide ((n : Int) < 0)) (n : Int).natAbs 0 = _
  rw [decide_eq_false (by omega), Int.natAbs_natCast]
/-- A whole number as a float. -/
theorem near_nat {n : Nat} (h0 : n ≠ 0) (h : n < 9007199254740992) : ∃ a, FloatKind.f64.nearest (n : Int) = a ∧ vl a = n * 2 ^ 1074 ∧ 4503599627370496 ≤ a ∧ a < 9218868437227405312 := by
  have hl : n.log2 < 53 := (Nat.log2_lt h0).2 (by rw [pow53]; exact h)
  obtain ⟨r, e, r1, r2, _, _⟩ := rep (s := 1074) h0 h (by omega) (by omega)
  refine ⟨r, ?_, e, r1, r2⟩
  rw [nearest_nat]
  exact near_exact n 0 1074 r 0 h0 (by omega) (by omega) (by rw [e, Nat.pow_zero, Nat.mul_one])
theorem near_pow : ∀ k : Fin 21, FloatKind.f64.nearest ((2 : Int) ^ k.val) = (1023 + k.val) * 4503599627370496 ∧ mg ((1023 + k.val) * 4503599627370496) = 4503599627370496 ∧ ex ((1023 + k.val) * 4503599627370496) = 1022 + k.val := by decide +kernel
theorem log_norm {r : Nat} (h : 4503599627370496 ≤ r) : (mg r).log2 = 52 := by
  have hm := mg_ge h
  have hm2 := mg_lt r
  have h1 : (mg r).log2 < 53 := (Nat.log2_lt (by omega)).2 (by rw [pow53]; exact hm2)
  have h2 : 52 ≤ (mg r).log2 := (Nat.le_log2 (by omega)).2 (by rw [pow52]; exact hm)
  omega
theorem read_pos {x : Nat} (hx : x < 9218868437227405312) : dbl.read x = .number false (mg x) (-1074 + (ex x : Int)) := by
  rw [read_num (r := x) (by omega) hx]
  have e1 : (x / 9223372036854775808 % 2 == 1) = false := by rw [Nat.div_eq_of_lt (by omega)]; rfl
  rw [e1]
/-- A fraction of at most 53 bits over a power of two, divided: the float that has its value. -/
theorem div_pow {n k : Nat} (hk : k ≤ 20) (h0 : n ≠ 0) (h : n < 9007199254740992) : ∃ w, dbl.div (FloatKind.f64.nearest (n : Int)) (FloatKind.f64.nearest ((2 : Int) ^ k)) = some w ∧ vl w = n * 2 ^ (1074 - k) ∧ 4503599627370496 ≤ w ∧ w < 9218868437227405312 := by
  obtain ⟨a, ea, va, a1, a2⟩ := near_nat h0 h
  obtain ⟨c1, c2, c3⟩ := near_pow ⟨k, by omega⟩
  dsimp only at c1 c2 c3
  have hl : n.log2 < 53 := (Nat.log2_lt h0).2 (by rw [pow53]; exact h)
  obtain ⟨w, e, r1, r2, _, _⟩ := rep (s := 1074 - k) h0 h (by omega) (by omega)
  refine ⟨w, ?_, e, r1, r2⟩
  rw [ea, c1]
  unfold Ieee.Format.div
  rw [read_pos a2, read_pos (by omega), c2, c3]
  have lm := log_norm a1
  have lB : (4503599627370496 : Nat).log2 = 52 := by decide +kernel
  have fb : dbl.fractionBits = 52 := rfl
  simp only [Ieee.Datum.quotient, fb, lm, lB, Nat.reduceAdd, Nat.reduceSub]
  rw [if_neg (by decide), Option.map_some]
  have e1 : mg a <<< 54 = mg a * 4 * 4503599627370496 := by
    rw [Nat.shiftLeft_eq, Nat.mul_assoc]
  rw [e1, Nat.mul_div_cancel _ (by decide), Nat.mul_mod_left]
  have hm := mg_ge a1
  have hv : (2 * (mg a * 4) + 0) * 2 ^ ex a = vl w * 2 ^ (3 + k) := by
    have h8 : (2 * (mg a * 4) + 0) * 2 ^ ex a = 8 * vl a := by
      clear va e hl
      show _ = 8 * (mg a * 2 ^ ex a)
      rw [show 2 * (mg a * 4) + 0 = 8 * mg a by omega, Nat.mul_assoc]
    have hp : n * 2 ^ (1074 - k) * 2 ^ (3 + k) = n * 2 ^ (3 + 1074) := by
      rw [Nat.mul_assoc, ← Nat.pow_add 2 (1074 - k) (3 + k), show 1074 - k + (3 + k) = 3 + 1074 by omega]
    have h3 : (2 : Nat) ^ (3 + 1074) = 8 * 2 ^ 1074 := by rw [Nat.pow_add 2 3 1074]
    rw [h8, va, e, hp, h3]
    generalize (2 : Nat) ^ 1074 = P
    rw [Nat.mul_left_comm]
  have hne : 2 * (mg a * 4) + 0 ≠ 0 := by clear va e; omega
  have hs : -1074 + (ex a : Int) - (-1074 + ((1022 + k : Nat) : Int)) - ((54 : Nat) : Int) - 1 + 1074 + ((3 + k : Nat) : Int) = ((ex a : Nat) : Int) := by clear va e; omega
  have hw : w ≤ 9218868437227405312 := by clear va e; omega
  exact congrArg some (near_exact _ (3 + k) (ex a) w _ hne hs hw hv)
theorem div_zero_pow : ∀ k : Fin 21, dbl.div (FloatKind.f64.nearest 0) (FloatKind.f64.nearest ((2 : Int) ^ k.val)) = some 0 := by decide +kernel

theorem nearest_le (m : Nat) (e : Int) : dbl.nearest false m e ≤ 9218868437227405312 := by
  unfold Ieee.Format.nearest
  dsimp only
  split
  · exact Nat.le_trans (Nat.le_of_eq (word_pos _)) (by decide)
  · refine Nat.le_trans (Nat.le_of_eq (word_pos _)) ?_
    rw [dbl_inf]
    exact Nat.min_le_right _ _
theorem nan_pos {b : Nat} (h1 : nanB b = false) (h2 : b < 9223372036854775808) : b ≤ 9218868437227405312 := by
  have := of_decide_eq_false h1; omega
theorem pos_nan {b : Nat} (h : b ≤ 9218868437227405312) : nanB b = false := decide_eq_false (by omega)
theorem key_pos {b : Nat} (h : b ≤ 9218868437227405312) : key b = (b : Int) := by
  unfold key
  have e : b % 9223372036854775808 = b := Nat.mod_eq_of_lt (by omega)
  rw [Nat.div_eq_of_lt (by omega), e]; rfl
theorem ord_gt {a b : Nat} (ha : a ≤ 9218868437227405312) (hb : b ≤ 9218868437227405312) : (dbl.order a b == some Ordering.gt) = decide (b < a) := by
  rw [ord_key (pos_nan ha) (pos_nan hb), key_pos ha, key_pos hb]
  by_cases h : b < a
  · rw [decide_eq_true h, Int.compare_eq_gt.2 (by omega)]; rfl
  · rw [decide_eq_false h]
    rcases Nat.lt_or_ge a b with g | g
    · rw [Int.compare_eq_lt.2 (by omega)]; rfl
    · rw [Int.compare_eq_eq.2 (show (a : Int) = (b : Int) by omega)]; rfl
theorem c1000 : mg 4652007308841189376 = 8796093022208000 ∧ ex 4652007308841189376 = 1031 := by decide +kernel
theorem read1000 : dbl.read 4652007308841189376 = .number false 8796093022208000 (-43) := by decide +kernel
/-- A float that is not below nought, times 1000. -/
theorem mul1000 {b : Nat} (h : b ≤ 9218868437227405312) : ∃ p, dbl.mul b 4652007308841189376 = some p ∧ p ≤ 9218868437227405312 := by
  unfold Ieee.Format.mul
  rw [read1000]
  rcases Nat.lt_or_ge b 9218868437227405312 with g | g
  · rw [read_pos g]
    exact ⟨_, rfl, nearest_le _ _⟩
  · obtain rfl : b = 9218868437227405312 := by omega
    exact ⟨9218868437227405312, by decide +kernel, Nat.le_refl _⟩
def p1000 (b : Nat) : Nat := (dbl.mul b 4652007308841189376).getD 0
theorem p1000_some {b : Nat} (h : b ≤ 9218868437227405312) : dbl.mul b 4652007308841189376 = some (p1000 b) ∧ p1000 b ≤ 9218868437227405312 := by
  obtain ⟨p, e, hp⟩ := mul1000 h
  unfold p1000
  rw [e]; exact ⟨rfl, hp⟩
theorem vl53 : vl 4845873199050653696 = 9007199254740992 * 2 ^ 1074 := by decide +kernel
/-- Made whole: no more than 2 ^ 53. -/
theorem whole53 {p : Nat} (h : p ≤ 4845873199050653696) : Go.floatToIntVal .f64 p .u64 = some ((vl p / 2 ^ 1074 : Nat) : Int) ∧ vl p / 2 ^ 1074 ≤ 9007199254740992 := by
  have h2 : vl p / 2 ^ 1074 ≤ 9007199254740992 := by
    have h1 := vl_le h
    rw [vl53] at h1
    have := Nat.div_le_div_right (c := 2 ^ 1074) h1
    rw [Nat.mul_div_cancel _ (Nat.two_pow_pos 1074)] at this
    exact this
  refine ⟨?_, h2⟩
  unfold Go.floatToIntVal
  have := whole_pos (x := p) (by omega)
  show (match (dbl.read p).toInt .zero with | some n => if IntKind.u64.min ≤ n ∧ n ≤ IntKind.u64.max then some n else none | none => none) = _
  rw [this]
  generalize vl p / 2 ^ 1074 = n at *
  refine if_pos ⟨?_, ?_⟩
  · show (0 : Int) ≤ n; omega
  · show (n : Int) ≤ 18446744073709551615; omega
/-- Ticks: how many, or why not. -/
def ticksV (b : Nat) : Int × Int :=
  if nanB b = true then (0, 10) else if 9223372036854775808 ≤ b then (0, 11) else if 4845873199050653696 < p1000 b then (0, 1) else (((vl (p1000 b) / 2 ^ 1074 : Nat) : Int), 0)

theorem integral_even {m x : Nat} (h : x ≤ 1074) : (Ieee.Datum.number false m (-1074 + (x : Int))).integral .even = .number false (rne m (2 ^ (1074 - x))) 0 := by
  show Ieee.Datum.number false (Ieee.Toward.even.cut false (m <<< (-1074 + (x : Int)).toNat) (-(-1074 + (x : Int))).toNat) 0 = _
  have a1 : (-1074 + (x : Int)).toNat = 0 := by omega
  have a2 : (-(-1074 + (x : Int))).toNat = 1074 - x := by omega
  rw [cut_eq, a1, a2, Nat.shiftLeft_eq, Nat.pow_zero, Nat.mul_one]
/-- A whole number as a float, and back. -/
theorem nat_back {n : Nat} (h : n ≤ 1073741824) : Go.floatToIntVal .f64 (dbl.nearest false n 0) .u64 = some (n : Int) := by
  have hz : ∃ a, dbl.nearest false n 0 = a ∧ vl a / 2 ^ 1074 = n ∧ a < 9218868437227405312 := by
    rcases Nat.eq_zero_or_pos n with h0 | h0
    · subst h0
      exact ⟨0, by decide +kernel, by decide +kernel, by decide⟩
    · obtain ⟨a, e, va, _, a2⟩ := near_nat (n := n) (by omega) (by omega)
      rw [nearest_nat] at e
      exact ⟨a, e, by rw [va]; exact Nat.mul_div_cancel _ (Nat.two_pow_pos 1074), a2⟩
  obtain ⟨a, e, va, a2⟩ := hz
  rw [e]
  have := whole_pos (x := a) a2
  unfold Go.floatToIntVal
  show (match (dbl.read a).toInt .zero with | some n => if IntKind.u64.min ≤ n ∧ n ≤ IntKind.u64.max then some n else none | none => none) = _
  rw [this, va]
  refine if_pos ⟨?_, ?_⟩
  · show (0 : Int) ≤ n; omega
  · show (n : Int) ≤ 18446744073709551615; omega
theorem of_nums {b : Nat} (h : b ≤ 4652218415073722368) : ∃ y m x, dbl.mul b 4697254411347427328 = some y ∧ dbl.read y = .number false m (-1074 + (x : Int)) ∧ dbl.write ((Ieee.Datum.number false m (-1074 + (x : Int))).integral .even) = dbl.nearest false (nOf b) 0 := by
  rcases Nat.lt_or_ge b 4503599627370496 with g | g
  · have hn : nOf b = 0 := nOf_zero (by omega)
    have hy : ∃ y, dbl.mul b 4697254411347427328 = some y ∧ y ≤ 94575592174780416 := by
      rcases Nat.eq_zero_or_pos b with h0 | h0
      · subst h0; exact ⟨0, mul20_zero, by omega⟩
      · exact mul20_small h0 g
    obtain ⟨y, e, hy⟩ := hy
    have hx : ex y ≤ 20 := by unfold ex; omega
    refine ⟨y, mg y, ex y, e, read_pos (by omega), ?_⟩
    rw [integral_even (by omega), hn]
    have : rne (mg y) (2 ^ (1074 - ex y)) = 0 := by
      have h1 := mg_lt y
      have h2 : (2 : Nat) ^ 54 ≤ 2 ^ (1074 - ex y) := Nat.pow_le_pow_right (by decide) (by omega)
      have h3 : (2 : Nat) ^ 54 = 18014398509481984 := by decide
      unfold rne
      rw [Nat.div_eq_of_lt (by omega), Nat.mod_eq_of_lt (by omega), if_neg (by omega)]
    rw [this]; rfl
  · obtain ⟨e1, e2⟩ := up20 g
    have hx : ex b ≤ 1032 := by unfold ex; omega
    obtain ⟨x, ex'⟩ : ∃ x, x = ex b + 20 := ⟨_, rfl⟩
    refine ⟨_, mg b, x, mul20 g h, ?_, ?_⟩
    · rw [read_pos (by omega), e1, e2, ex']
    · rw [integral_even (by omega), ex', show 1074 - (ex b + 20) = 1054 - ex b by omega]; rfl
end Go.Proofs.YtpebcphkockkkaaDoor.Hand
