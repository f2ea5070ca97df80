/-
  RateOf: the plain law. No program.
-/
import Derived.Test.YtpebcphkockkkaaDoorPureF1
import Derived.Test.YtpebcphkockkkaaDoorPFx5
namespace Go.Proofs.YtpebcphkockkkaaDoor.Hand
open Go.RowKit Go.Proofs.YtpebcphkockkkaaDoorW.PrintWords Go.Proofs.YtpebcphkockkkaaDoorW.PrintLast Go.Proofs.YtpebcphkockkkaaDoorW.PrintMore Go.Proofs.YtpebcphkockkkaaDoor.PA Go.Proofs.YtpebcphkockkkaaDoor.PB Go.Proofs.YtpebcphkockkkaaDoor.PD Go.Proofs.YtpebcphkockkkaaDoor.PE Go.Proofs.YtpebcphkockkkaaDoor.PF

def lb : Nat → Nat → Nat
  | 0, _ => 0
  | j + 1, n => if n % 2 = 0 then lb j (n / 2) + 1 else 0
theorem lb_le : ∀ j n, lb j n ≤ j
  | 0, _ => Nat.le_refl _
  | j + 1, n => by
    unfold lb
    have := lb_le j (n / 2)
    split <;> omega
theorem lb_ctz : ∀ j f n, j ≤ f → lb j n = min (Lib.ctzFrom f n) j
  | 0, _, _, _ => by simp [lb]
  | j + 1, f, n, h => by
    obtain ⟨g, rfl⟩ : ∃ g, f = g + 1 := ⟨f - 1, by omega⟩
    have ih := lb_ctz j g (n / 2) (by omega)
    unfold lb Lib.ctzFrom
    generalize Lib.ctzFrom g (n / 2) = c at *
    rw [ih]
    by_cases q : n % 2 = 0
    · rw [if_pos q, if_neg (by omega)]; omega
    · rw [if_neg q, if_pos (by omega)]; omega
theorem lb_by (n : Nat) : lb 20 n = byOf n := by
  have h := lb_ctz 20 64 n (by omega)
  rw [h]
  unfold byOf Lib.ctz
  by_cases q : n = 0
  · subst q; decide +kernel
  · rw [if_neg q]
theorem least_loop : ∀ (j n K : Nat), j ≤ 20 → n ≤ 1073741824 → tikref1_least.l0 (K + j + 1) (n : Int) (2 ^ j) = some (((n / 2 ^ lb j n : Nat) : Int), 2 ^ (j - lb j n))
  | 0, n, K, _, _ => by
    rw [tikref1_least.l0, if_neg (by decide)]
    simp [lb]
  | j + 1, n, K, hj, hn => by
    obtain ⟨p1, p2⟩ := pow_20 j (by omega)
    have e2 : (2 : Int) ^ (j + 1) = 2 * 2 ^ j := by rw [Int.pow_succ]; omega
    have t1 : Int.tmod (n : Int) 2 = (n : Int) % 2 := tmod_two _ (by omega)
    rw [show K + (j + 1) + 1 = (K + j + 1) + 1 by omega, tikref1_least.l0, t1]
    unfold lb
    by_cases q : n % 2 = 0
    · have w1 : IntKind.u64.wrap (Int.tdiv (n : Int) 2) = ((n / 2 : Nat) : Int) := by
        rw [Int.tdiv_eq_ediv_of_nonneg (by omega), IntWalk.u64_in _ ⟨by omega, by omega⟩]; omega
      have w2 : IntKind.u64.wrap (Int.tdiv ((2 : Int) ^ (j + 1)) 2) = 2 ^ j := by
        rw [e2, Int.tdiv_eq_ediv_of_nonneg (by omega), IntWalk.u64_in _ ⟨by omega, by omega⟩]; omega
      rw [if_pos (by rw [e2]; clear w1 w2; omega), if_pos (by clear w1 w2; omega), w1, w2, if_pos q]
      clear w1 w2
      have ih := least_loop j (n / 2) K (by omega) (by omega)
      rw [ih, Nat.div_div_eq_div_mul]
      have e3 : 2 * 2 ^ lb j (n / 2) = 2 ^ (lb j (n / 2) + 1) := by rw [Nat.pow_succ]; omega
      rw [e3, show j + 1 - (lb j (n / 2) + 1) = j - lb j (n / 2) by omega]
    · rw [if_pos (by rw [e2]; omega), if_neg (by omega), if_neg q]
      simp
theorem least_any (n K : Nat) (hn : n ≤ 1073741824) : tikref1_least.f (K + 21) (n : Int) = some (((n / 2 ^ byOf n : Nat) : Int), 2 ^ (20 - byOf n)) := by
  have := least_loop 20 n K (by omega) hn
  rw [lb_by] at this
  exact this
theorem shl60 : ∀ k : Fin 61, 0 ≤ IntKind.u64.wrap (k.val : Int) ∧ shl .u64 1 (IntKind.u64.wrap (k.val : Int)) = (2 : Int) ^ k.val ∧ IntKind.u64.wrap ((2 : Int) ^ k.val - 1) = (2 : Int) ^ k.val - 1 ∧ IntKind.u64.wrap (k.val : Int) = (k.val : Int) := by decide +kernel
theorem and_mask60 (x k : Nat) (hk : k ≤ 60) (h : x < 18446744073709551616) : Go.bits .and .u64 (x : Int) (2 ^ k - 1) = ((x % 2 ^ k : Nat) : Int) := by
  have p1 : 1 ≤ (2 : Nat) ^ k := Nat.one_le_two_pow
  have p2 : (2 : Nat) ^ k ≤ 2 ^ 60 := Nat.pow_le_pow_right (by decide) hk
  have e : ((2 : Int) ^ k - 1) = ((2 ^ k - 1 : Nat) : Int) := by rw [Int.natCast_sub p1, Int.natCast_pow]; rfl
  have e60 : (2 : Nat) ^ 60 = 1152921504606846976 := by decide
  rw [e, u64_and_nat x (2 ^ k - 1) h (by omega), Nat.and_two_pow_sub_one_eq_mod]
theorem or_52 (x : Nat) (h : x < 4503599627370496) : Go.bits .or .u64 (x : Int) 4503599627370496 = ((4503599627370496 + x : Nat) : Int) := by
  have := u64_or_nat x 4503599627370496 (by omega) (by decide)
  refine this.trans ?_
  have e := Nat.two_pow_add_eq_or_of_lt (i := 52) (b := x) (by rw [pow52]; exact h) 1
  rw [pow52, Nat.mul_one] at e
  rw [Nat.or_comm, ← e]
theorem of_j1 (K n : Nat) (up : Bool) (hn : n + up.toNat ≤ 1073741824) : tikref1_Of.j1 (K + 21 + 1) (n : Int) up = some (if n + up.toNat = 0 then (0, 0, 1) else ((((n + up.toNat) / 2 ^ byOf (n + up.toNat) : Nat) : Int), 2 ^ (20 - byOf (n + up.toNat)), 0)) := by
  rw [tikref1_Of.j1]
  cases up with
  | true =>
    have w : IntKind.u64.wrap ((n : Int) + 1) = ((n + 1 : Nat) : Int) := by rw [IntWalk.u64_in _ ⟨by omega, by have : true.toNat = 1 := rfl; omega⟩]; omega
    rw [if_pos rfl, w, if_neg (by clear w; omega)]
    show (tikref1_least.f (K + 21) ((n + 1 : Nat) : Int)).bind _ = _
    rw [least_any (n + 1) K hn]
    show _ = some (if n + 1 = 0 then _ else _)
    rw [if_neg (by clear w; omega)]; rfl
  | false =>
    rw [if_neg (by decide)]
    have e0 : n + false.toNat = n := rfl
    rw [e0] at hn ⊢
    by_cases q : n = 0
    · rw [if_pos (by omega), if_pos q]
    · rw [if_neg (by omega), if_neg q]
      show (tikref1_least.f (K + 21) (n : Int)).bind _ = _
      rw [least_any n K hn]; rfl
theorem of_j0 (K : Nat) {b : Nat} (h0 : 0 < b) (h : b ≤ 4652218415073722368) : tikref1_Of.j0 (K + 21 + 1 + 1) (mg b : Int) ((ex b + 1 : Nat) : Int) = some (if nOf b = 0 then (0, 0, 1) else (((nOf b / 2 ^ byOf (nOf b) : Nat) : Int), 2 ^ (20 - byOf (nOf b)), 0)) := by
  have hx : ex b ≤ 1032 := by unfold ex; omega
  obtain ⟨D, hD⟩ : ∃ D, D = 1054 - ex b := ⟨_, rfl⟩
  have e1 : wrap64 (1075 - ((ex b + 1 : Nat) : Int)) = ((D + 20 : Nat) : Int) := by rw [IntWalk.wrap64_in _ (by omega)]; omega
  have e2 : wrap64 (((D + 20 : Nat) : Int) - 20) = (D : Int) := by clear e1; rw [IntWalk.wrap64_in _ (by omega)]; omega
  have e3 : wrap64 ((D : Int) - 1) = ((D - 1 : Nat) : Int) := by clear e1 e2; rw [IntWalk.wrap64_in _ (by omega)]; omega
  rw [tikref1_Of.j0, e1, e2, e3]
  clear e1 e2 e3
  by_cases q : D > 60
  · rw [if_pos (by omega)]
    have : nOf b = 0 := nOf_zero (by unfold ex at hD; omega)
    rw [if_pos this]
  · have hm := mg_lt b
    obtain ⟨a1, a2, a3, a4⟩ := shl60 ⟨D, by omega⟩
    obtain ⟨b1, b2, _, _⟩ := shl60 ⟨D - 1, by omega⟩
    dsimp only at a1 a2 a3 a4 b1 b2
    have es : shr .u64 (mg b : Int) (IntKind.u64.wrap (D : Int)) = ((mg b / 2 ^ D : Nat) : Int) := by
      rw [a4]
      unfold shr
      have : min ((D : Int).toNat) IntKind.u64.bits = D := by show min D 64 = D; omega
      rw [this, Int.natCast_ediv, Int.natCast_pow]; rfl
    have hn := nOf_le h
    have hr : nOf b = mg b / 2 ^ D + (if mg b % 2 ^ D > 2 ^ (D - 1) ∨ (mg b % 2 ^ D = 2 ^ (D - 1) ∧ mg b / 2 ^ D % 2 = 1) then 1 else 0) := by
      have := rne_parts (mg b) D (by omega)
      unfold nOf
      rw [← hD]; exact this
    have ec : (2 : Int) ^ (D - 1) = ((2 ^ (D - 1) : Nat) : Int) := by rw [Int.natCast_pow]; rfl
    rw [if_neg (by omega), if_pos a1, if_pos b1, a2, a3, b2, es, and_mask60 (mg b) D (by omega) (by omega), ec]
    have ht : Int.tmod ((mg b / 2 ^ D : Nat) : Int) 2 = ((mg b / 2 ^ D % 2 : Nat) : Int) := by rw [tmod_two _ (Int.natCast_nonneg _), Int.natCast_emod]; rfl
    clear a1 a2 a3 a4 b1 b2 es ec
    generalize mg b / 2 ^ D = n at *
    generalize mg b % 2 ^ D = r at *
    generalize 2 ^ (D - 1) = hf at *
    by_cases q1 : r > hf
    · rw [if_pos (by omega)]
      rw [if_pos (.inl q1)] at hr
      rw [hr]
      exact of_j1 K n true (by rw [← show n + 1 = n + true.toNat from rfl]; omega)
    · rw [if_neg (by omega)]
      by_cases q2 : r = hf
      · rw [if_pos (by omega), ht]
        by_cases q3 : n % 2 = 1
        · rw [if_pos (.inr ⟨q2, q3⟩)] at hr
          rw [hr, q3]
          exact of_j1 K n true (by rw [← show n + 1 = n + true.toNat from rfl]; omega)
        · rw [if_neg (by omega)] at hr
          have : ((((n % 2 : Nat) : Int)) == 1) = false := beq_eq_false_iff_ne.mpr (by omega)
          rw [hr, this]
          exact of_j1 K n false (by rw [← show n + 0 = n + false.toNat from rfl]; omega)
      · rw [if_neg (by omega)]
        rw [if_neg (by omega)] at hr
        rw [hr]
        exact of_j1 K n false (by rw [← show n + 0 = n + false.toNat from rfl]; omega)
theorem ref_of (K : Nat) {b : Nat} (hb : b < 18446744073709551616) : tikref1_Of.f (K + 23) b = some (ofV b) := by
  have hi : tikref1_isNaN.f (b : Int) = some (nanB b) := congrArg some (isnan_eq hb)
  unfold tikref1_Of.f ofV
  rw [hi, Option.bind_some]
  by_cases q0 : nanB b = true
  · rw [if_pos q0, if_pos q0]
  · rw [if_neg q0, if_neg q0]
    by_cases q1 : 9223372036854775808 ≤ b
    · rw [if_pos (by omega), if_pos q1]
    · rw [if_neg (by omega), if_neg q1]
      by_cases q2 : b = 0
      · subst q2
        rw [if_pos (by omega), if_neg (by omega)]
        have n0 : nOf 0 = 0 := nOf_zero (by omega)
        rw [n0, if_neg (by omega)]
        decide +kernel
      · rw [if_neg (by omega)]
        by_cases q3 : 4652218415073722368 < b
        · rw [if_pos (by omega), if_pos q3]
        · rw [if_neg (by omega), if_neg q3]
          have hw : wrap64 ((b : Int) / 4503599627370496) = (b : Int) / 4503599627370496 := IntWalk.wrap64_in _ (by omega)
          have ha : Go.bits .and .u64 (b : Int) 4503599627370495 = ((b % 4503599627370496 : Nat) : Int) := by
            have := and_mask60 b 52 (by omega) hb
            rw [pow52] at this
            exact this
          have hj := of_j0 K (b := b) (by omega) (by omega)
          have hif : ∀ (x y : Int × Int × Int), (if nOf b = 0 then x else y) = (if nOf b = 0 ∧ 0 < b then x else y) := fun x y => by
            by_cases z : nOf b = 0
            · rw [if_pos z, if_pos ⟨z, by omega⟩]
            · rw [if_neg z, if_neg (fun h => z h.1)]
          rw [hif] at hj
          rw [hw, ha]
          by_cases q4 : b < 4503599627370496
          · have e := mg_sub q4
            rw [if_neg (by clear hw; omega)]
            rw [e.1, e.2] at hj
            rw [Nat.mod_eq_of_lt q4]
            exact hj
          · have e5 : mg b = 4503599627370496 + b % 4503599627370496 := (mg_norm (by omega)).symm
            have e6 : ((ex b + 1 : Nat) : Int) = (b : Int) / 4503599627370496 := by unfold ex; omega
            rw [if_pos (by clear hw; omega), or_52 _ (Nat.mod_lt _ (by decide)), ← e5, ← e6]
            exact hj

theorem and63 (u : Nat) (h : u < 2 ^ 63) : u &&& 2 ^ 63 = 0 := by
  apply Nat.eq_of_testBit_eq
  intro i
  rw [Nat.testBit_and, Nat.testBit_two_pow]
  by_cases q : 63 = i
  · subst q; simp [Nat.testBit_lt_two_pow h]
  · simp [q]
theorem and63' (u : Nat) (h : 2 ^ 63 ≤ u) (h2 : u < 2 ^ 64) : u &&& 2 ^ 63 ≠ 0 := by
  intro e
  have h1 : (u &&& 2 ^ 63).testBit 63 = true := by
    rw [Nat.testBit_and, Nat.testBit_two_pow, Nat.testBit_eq_decide_div_mod_eq]
    have : u / 2 ^ 63 % 2 = 1 := by omega
    simp [this]
  rw [e] at h1
  simp at h1
theorem xor64 (u : Nat) (h : u < 2 ^ 64) : (2 ^ 64 - 1) ^^^ u = 2 ^ 64 - 1 - u := by
  apply Nat.eq_of_testBit_eq
  intro i
  rw [Nat.testBit_xor, Nat.testBit_two_pow_sub_one, Nat.sub_sub, Nat.add_comm, Nat.testBit_two_pow_sub_succ h]
  by_cases q : i < 64
  · simp [q]
  · have : u.testBit i = false := Nat.testBit_lt_two_pow (Nat.lt_of_lt_of_le h (Nat.pow_le_pow_right (by decide) (by omega)))
    simp [q, this]
theorem p63 : (2 : Nat) ^ 63 = 9223372036854775808 := by decide
theorem p64 : (2 : Nat) ^ 64 = 18446744073709551616 := by decide
/-- A word's place. -/
def rk (u : Nat) : Nat := if 9223372036854775808 ≤ u then 18446744073709551615 - u else u + 9223372036854775808
theorem and_bit {u : Nat} (h : u < 18446744073709551616) : (Go.bits .and .u64 (u : Int) 9223372036854775808 > 0) ↔ 9223372036854775808 ≤ u := by
  have e := u64_and_nat u 9223372036854775808 h (by decide)
  have e' : Go.bits .and .u64 (u : Int) 9223372036854775808 = ((u &&& 2 ^ 63 : Nat) : Int) := by rw [p63]; exact e
  rw [e']
  rcases Nat.lt_or_ge u (2 ^ 63) with q | q
  · rw [and63 u q]; rw [p63] at q; omega
  · have := and63' u q (by rw [p64]; exact h)
    rw [p63] at q; omega
theorem xor_all {u : Nat} (h : u < 18446744073709551616) : Go.bits .xor .u64 18446744073709551615 (u : Int) = ((18446744073709551615 - u : Nat) : Int) := by
  have e := u64_xor_nat 18446744073709551615 u (by decide) h
  refine e.trans ?_
  have := xor64 u (by rw [p64]; exact h)
  have e2 : (2 : Nat) ^ 64 - 1 = 18446744073709551615 := by decide
  rw [e2] at this
  rw [this]
theorem or_bit {u : Nat} (h : u < 9223372036854775808) : Go.bits .or .u64 (u : Int) 9223372036854775808 = ((u + 9223372036854775808 : Nat) : Int) := by
  have e := u64_or_nat u 9223372036854775808 (by omega) (by decide)
  refine e.trans ?_
  have e := Nat.two_pow_add_eq_or_of_lt (i := 63) (b := u) (by rw [p63]; exact h) 1
  rw [p63, Nat.mul_one] at e
  rw [Nat.or_comm, ← e, Nat.add_comm]
theorem rank_f {a : Nat} (h : a < 18446744073709551616) : rate_rank.f a = some ((rk (canonV a) : Nat) : Int) := by
  have hc := canon_lt h
  unfold rate_rank.f rate_Bits.f rk
  rw [Option.bind_some]
  by_cases q : 9223372036854775808 ≤ canonV a
  · rw [if_pos ((and_bit hc).2 q), if_pos q, xor_all hc]
  · rw [if_neg (fun h => q ((and_bit hc).1 h)), if_neg q, or_bit (by omega)]
theorem canon_ne {a : Nat} (h : nanB a = false) : canonV a = a ∧ a ≠ 9221120237041090560 := by
  unfold canonV
  rw [h]
  refine ⟨if_neg (by simp), ?_⟩
  rintro rfl
  exact absurd h (by decide +kernel)
theorem canon_nan {a : Nat} (h : nanB a = true) : canonV a = 9221120237041090560 := by
  unfold canonV; exact if_pos h
theorem rrank_f {a : Nat} (h : a < 18446744073709551616) : tikref1_rank.f a = some (if nanB a = true then 18446744073709551615 else ((rk (canonV a) : Nat) : Int)) := by
  have hc := canon_lt h
  unfold tikref1_rank.f tikref1_Bits.f tikref1_nan.f rk
  rw [if_pos h, Option.bind_some, Option.bind_some]
  cases hn : nanB a with
  | true => rw [canon_nan hn, if_pos (by decide), if_pos rfl]
  | false =>
    obtain ⟨e, hne⟩ := canon_ne hn
    rw [e] at hc ⊢
    rw [if_neg (by omega), if_neg (show ¬ (false = true) by decide)]
    by_cases q : 9223372036854775808 ≤ a
    · rw [if_pos (by omega), if_pos q, xor_all hc]
    · rw [if_neg (by omega), if_neg q, or_bit (by omega)]
def cmpV (x y : Int) : Int := if x < y then -1 else if x > y then 1 else 0
theorem order_f {a b : Nat} (ha : a < 18446744073709551616) (hb : b < 18446744073709551616) : rate_Order.f a b = some (cmpV (rk (canonV a) : Nat) (rk (canonV b) : Nat)) := by
  unfold rate_Order.f
  rw [rank_f ha, Option.bind_some, rank_f hb, Option.bind_some]
  unfold cmp_Compare_uint64.f cmp_isNaN_uint64.f cmpV
  simp only [Option.bind_some, bne_self_eq_false]
  rw [if_neg (by decide), if_neg (by decide)]
  split
  · rfl
  · split <;> rfl
theorem rk_num {a : Nat} (h : nanB a = false) (ha : a < 18446744073709551616) : rk (canonV a) ≤ 18442240474082181120 := by
  rw [(canon_ne h).1]
  have := of_decide_eq_false h
  unfold rk
  split <;> omega
theorem rk_nan {a : Nat} (h : nanB a = true) : rk (canonV a) = 18444492273895866368 := by
  rw [canon_nan h]; decide +kernel
theorem rorder_f {a b : Nat} (ha : a < 18446744073709551616) (hb : b < 18446744073709551616) : tikref1_Order.f a b = some (cmpV (rk (canonV a) : Nat) (rk (canonV b) : Nat)) := by
  unfold tikref1_Order.f
  rw [rrank_f ha, Option.bind_some, rrank_f hb, Option.bind_some]
  have key : ∀ x y : Int, (if x < y then some (-1 : Int) else if x > y then some 1 else some 0) = some (cmpV x y) := fun x y => by
    unfold cmpV; split
    · rfl
    · split <;> rfl
  rw [key]
  congr 1
  cases hn : nanB a with
  | true =>
    rw [rk_nan hn, if_pos rfl]
    cases hm : nanB b with
    | true => rw [rk_nan hm, if_pos rfl]; decide
    | false =>
      have := rk_num hm hb
      rw [if_neg (by decide)]
      unfold cmpV
      rw [if_neg (by omega), if_pos (by omega), if_neg (by omega), if_pos (by omega)]
  | false =>
    have h1 := rk_num hn ha
    rw [if_neg (by decide)]
    cases hm : nanB b with
    | true =>
      rw [rk_nan hm, if_pos rfl]
      unfold cmpV
      rw [if_pos (by omega), if_pos (by omega)]
    | false => rw [if_neg (by decide)]
theorem of_any (K : Nat) {a : Int} {x y : Nat} (ha : U64 a) (hx : x < 18446744073709551616) (hy : y < 18446744073709551616) : tiklaw1_RateOf.f (K + 23) a x y = some true := by
  obtain ⟨b, rfl⟩ := Int.eq_ofNat_of_zero_le ha.1
  have hb : b < 18446744073709551616 := by have := ha.2; omega
  have hf : rate_From.f (b : Int) = some (canonV b) := by unfold rate_From.f; rw [if_pos ⟨by omega, by omega⟩, Int.toNat_natCast]
  have hf2 : tikref1_From.f (b : Int) = some (canonV b) := by unfold tikref1_From.f; rw [if_pos ⟨by omega, by omega⟩, Int.toNat_natCast]
  have hc := canon_lt hb
  have o1 : rate_Of.f (canonV b) = some (ofV (canonV b)) := if_pos hc
  have o2 := ref_of K hc
  have o3 : rate_Of.f x = some (ofV x) := if_pos hx
  have o4 := ref_of K hx
  have b1 : ∀ z, rate_Bits.f z = some (canonV z : Int) := fun z => rfl
  have b2 : ∀ z, z < 18446744073709551616 → tikref1_Bits.f z = some (canonV z : Int) := fun z hz => if_pos hz
  have pl : ∀ p q, tiklaw1_plain.f p q = some (p, q) := fun p q => rfl
  unfold tiklaw1_RateOf.f
  rw [rfirst_true, Option.bind_some, if_pos rfl, hf, Option.bind_some, o1, Option.bind_some, hf2, Option.bind_some, o2, Option.bind_some, o3, Option.bind_some, o4, Option.bind_some, Option.bind_some, if_pos rfl, pl, Option.bind_some, if_pos (by simp), if_pos rfl, pl, Option.bind_some, if_pos (by simp), if_pos rfl, Option.bind_some, b1, Option.bind_some, Option.bind_some, b2 _ hc, Option.bind_some, if_pos rfl, b1, Option.bind_some, b2 _ hx, Option.bind_some, if_pos rfl, order_f hx hy, Option.bind_some, rorder_f hx hy, Option.bind_some]
  simp
end Go.Proofs.YtpebcphkockkkaaDoor.Hand
