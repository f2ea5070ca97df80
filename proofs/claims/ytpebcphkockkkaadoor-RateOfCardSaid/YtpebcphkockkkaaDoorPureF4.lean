/-
  RateOf: what the document makes of a float is what the program makes of it. No program.
-/
import Derived.Test.YtpebcphkockkkaaDoorPureF2
import Derived.Test.YtpebcphkockkkaaDoorPFx5
namespace Go.Proofs.YtpebcphkockkkaaDoor.Hand
open Go.RowKit Go.Proofs.YtpebcphkockkkaaDoorW.PrintWords Go.Proofs.YtpebcphkockkkaaDoorW.PrintLast Go.Proofs.YtpebcphkockkkaaDoorW.PrintMore Go.Proofs.YtpebcphkockkkaaDoor.PA Go.Proofs.YtpebcphkockkkaaDoor.PB Go.Proofs.YtpebcphkockkkaaDoor.PD Go.Proofs.YtpebcphkockkkaaDoor.PE Go.Proofs.YtpebcphkockkkaaDoor.PF
set_option linter.unusedSimpArgs false
set_option linter.unusedVariables false
set_option exponentiation.threshold 3000

theorem least_loop : ∀ (j n K : Nat), j ≤ 20 → n ≤ 1073741824 → tikref1_least.l0 (K + j + 1) (n : Int) (2 ^ j) = some (((n / 2 ^ lb j n : Nat) : Int), 2 ^ (j - lb j n))
  | 0, n, K, _, _ => by
    rw [tikref1_least.l0, if_neg (by decide)]
    simp [lb]
  | j + 1, n, K, hj, hn => by
    obtain ⟨p1, p2⟩ := pow_20 j (by omega)
    have e2 : (2 : Int) ^ (j + 1) = 2 * 2 ^ j := by rw [Int.pow_succ]; omega
    have t1 : Int.tmod (n : Int) 2 = (n : Int) % 2 := tmod_two _ (by omega)
    rw [show K + (j + 1) + 1 = (K + j + 1) + 1 by omega, tikref1_least.l0, t1]
    unfold lb
    by_cases q : n % 2 = 0
    · have w1 : IntKind.u64.wrap (Int.tdiv (n : Int) 2) = ((n / 2 : Nat) : Int) := by
        rw [Int.tdiv_eq_ediv_of_nonneg (by omega), IntWalk.u64_in _ ⟨by omega, by omega⟩]; omega
      have w2 : IntKind.u64.wrap (Int.tdiv ((2 : Int) ^ (j + 1)) 2) = 2 ^ j := by
        rw [e2, Int.tdiv_eq_ediv_of_nonneg (by omega), IntWalk.u64_in _ ⟨by omega, by omega⟩]; omega
      rw [if_pos (by rw [e2]; clear w1 w2; omega), if_pos (by clear w1 w2; omega), w1, w2, if_pos q]
      clear w1 w2
      have ih := least_loop j (n / 2) K (by omega) (by omega)
      rw [ih, Nat.div_div_eq_div_mul]
      have e3 : 2 * 2 ^ lb j (n / 2) = 2 ^ (lb j (n / 2) + 1) := by rw [Nat.pow_succ]; omega
      rw [e3, show j + 1 - (lb j (n / 2) + 1) = j - lb j (n / 2) by omega]
    · rw [if_pos (by rw [e2]; omega), if_neg (by omega), if_neg q]
      simp
theorem least_any (n K : Nat) (hn : n ≤ 1073741824) : tikref1_least.f (K + 21) (n : Int) = some (((n / 2 ^ byOf n : Nat) : Int), 2 ^ (20 - byOf n)) := by
  have := least_loop 20 n K (by omega) hn
  rw [lb_by] at this
  exact this
theorem shl60 : ∀ k : Fin 61, 0 ≤ IntKind.u64.wrap (k.val : Int) ∧ shl .u64 1 (IntKind.u64.wrap (k.val : Int)) = (2 : Int) ^ k.val ∧ IntKind.u64.wrap ((2 : Int) ^ k.val - 1) = (2 : Int) ^ k.val - 1 ∧ IntKind.u64.wrap (k.val : Int) = (k.val : Int) := by decide +kernel
theorem and_mask60 (x k : Nat) (hk : k ≤ 60) (h : x < 18446744073709551616) : Go.bits .and .u64 (x : Int) (2 ^ k - 1) = ((x % 2 ^ k : Nat) : Int) := by
  have p1 : 1 ≤ (2 : Nat) ^ k := Nat.one_le_two_pow
  have p2 : (2 : Nat) ^ k ≤ 2 ^ 60 := Nat.pow_le_pow_right (by decide) hk
  have e : ((2 : Int) ^ k - 1) = ((2 ^ k - 1 : Nat) : Int) := by rw [Int.natCast_sub p1, Int.natCast_pow]; rfl
  have e60 : (2 : Nat) ^ 60 = 1152921504606846976 := by decide
  rw [e, u64_and_nat x (2 ^ k - 1) h (by omega), Nat.and_two_pow_sub_one_eq_mod]
theorem or_52 (x : Nat) (h : x < 4503599627370496) : Go.bits .or .u64 (x : Int) 4503599627370496 = ((4503599627370496 + x : Nat) : Int) := by
  have := u64_or_nat x 4503599627370496 (by omega) (by decide)
  refine this.trans ?_
  have e := Nat.two_pow_add_eq_or_of_lt (i := 52) (b := x) (by rw [pow52]; exact h) 1
  rw [pow52, Nat.mul_one] at e
  rw [Nat.or_comm, ← e]
theorem of_j1 (K n : Nat) (up : Bool) (hn : n + up.toNat ≤ 1073741824) : tikref1_Of.j1 (K + 21 + 1) (n : Int) up = some (if n + up.toNat = 0 then (0, 0, 1) else ((((n + up.toNat) / 2 ^ byOf (n + up.toNat) : Nat) : Int), 2 ^ (20 - byOf (n + up.toNat)), 0)) := by
  rw [tikref1_Of.j1]
  cases up with
  | true =>
    have w : IntKind.u64.wrap ((n : Int) + 1) = ((n + 1 : Nat) : Int) := by rw [IntWalk.u64_in _ ⟨by omega, by have : true.toNat = 1 := rfl; omega⟩]; omega
    rw [if_pos rfl, w, if_neg (by clear w; omega)]
    show (tikref1_least.f (K + 21) ((n + 1 : Nat) : Int)).bind _ = _
    rw [least_any (n + 1) K hn]
    show _ = some (if n + 1 = 0 then _ else _)
    rw [if_neg (by clear w; omega)]; rfl
  | false =>
    rw [if_neg (by decide)]
    have e0 : n + false.toNat = n := rfl
    rw [e0] at hn ⊢
    by_cases q : n = 0
    · rw [if_pos (by omega), if_pos q]
    · rw [if_neg (by omega), if_neg q]
      show (tikref1_least.f (K + 21) (n : Int)).bind _ = _
      rw [least_any n K hn]; rfl
theorem of_j0 (K : Nat) {b : Nat} (h0 : 0 < b) (h : b ≤ 4652218415073722368) : tikref1_Of.j0 (K + 21 + 1 + 1) (mg b : Int) ((ex b + 1 : Nat) : Int) = some (if nOf b = 0 then (0, 0, 1) else (((nOf b / 2 ^ byOf (nOf b) : Nat) : Int), 2 ^ (20 - byOf (nOf b)), 0)) := by
  have hx : ex b ≤ 1032 := by unfold ex; omega
  obtain ⟨D, hD⟩ : ∃ D, D = 1054 - ex b := ⟨_, rfl⟩
  have e1 : wrap64 (1075 - ((ex b + 1 : Nat) : Int)) = ((D + 20 : Nat) : Int) := by rw [IntWalk.wrap64_in _ (by omega)]; omega
  have e2 : wrap64 (((D + 20 : Nat) : Int) - 20) = (D : Int) := by clear e1; rw [IntWalk.wrap64_in _ (by omega)]; omega
  have e3 : wrap64 ((D : Int) - 1) = ((D - 1 : Nat) : Int) := by clear e1 e2; rw [IntWalk.wrap64_in _ (by omega)]; omega
  rw [tikref1_Of.j0, e1, e2, e3]
  clear e1 e2 e3
  by_cases q : D > 60
  · rw [if_pos (by omega)]
    have : nOf b = 0 := nOf_zero (by unfold ex at hD; omega)
    rw [if_pos this]
  · have hm := mg_lt b
    obtain ⟨a1, a2, a3, a4⟩ := shl60 ⟨D, by omega⟩
    obtain ⟨b1, b2, _, _⟩ := shl60 ⟨D - 1, by omega⟩
    dsimp only at a1 a2 a3 a4 b1 b2
    have es : shr .u64 (mg b : Int) (IntKind.u64.wrap (D : Int)) = ((mg b / 2 ^ D : Nat) : Int) := by
      rw [a4]
      unfold shr
      have : min ((D : Int).toNat) IntKind.u64.bits = D := by show min D 64 = D; omega
      rw [this, Int.natCast_ediv, Int.natCast_pow]; rfl
    have hn := nOf_le h
    have hr : nOf b = mg b / 2 ^ D + (if mg b % 2 ^ D > 2 ^ (D - 1) ∨ (mg b % 2 ^ D = 2 ^ (D - 1) ∧ mg b / 2 ^ D % 2 = 1) then 1 else 0) := by
      have := rne_parts (mg b) D (by omega)
      unfold nOf
      rw [← hD]; exact this
    have ec : (2 : Int) ^ (D - 1) = ((2 ^ (D - 1) : Nat) : Int) := by rw [Int.natCast_pow]; rfl
    rw [if_neg (by omega), if_pos a1, if_pos b1, a2, a3, b2, es, and_mask60 (mg b) D (by omega) (by omega), ec]
    have ht : Int.tmod ((mg b / 2 ^ D : Nat) : Int) 2 = ((mg b / 2 ^ D % 2 : Nat) : Int) := by rw [tmod_two _ (Int.natCast_nonneg _), Int.natCast_emod]; rfl
    clear a1 a2 a3 a4 b1 b2 es ec
    generalize mg b / 2 ^ D = n at *
    generalize mg b % 2 ^ D = r at *
    generalize 2 ^ (D - 1) = hf at *
    by_cases q1 : r > hf
    · rw [if_pos (by omega)]
      rw [if_pos (.inl q1)] at hr
      rw [hr]
      exact of_j1 K n true (by rw [← show n + 1 = n + true.toNat from rfl]; omega)
    · rw [if_neg (by omega)]
      by_cases q2 : r = hf
      · rw [if_pos (by omega), ht]
        by_cases q3 : n % 2 = 1
        · rw [if_pos (.inr ⟨q2, q3⟩)] at hr
          rw [hr, q3]
          exact of_j1 K n true (by rw [← show n + 1 = n + true.toNat from rfl]; omega)
        · rw [if_neg (by omega)] at hr
          have : ((((n % 2 : Nat) : Int)) == 1) = false := beq_eq_false_iff_ne.mpr (by omega)
          rw [hr, this]
          exact of_j1 K n false (by rw [← show n + 0 = n + false.toNat from rfl]; omega)
      · rw [if_neg (by omega)]
        rw [if_neg (by omega)] at hr
        rw [hr]
        exact of_j1 K n false (by rw [← show n + 0 = n + false.toNat from rfl]; omega)
theorem ref_of (K : Nat) {b : Nat} (hb : b < 18446744073709551616) : tikref1_Of.f (K + 23) b = some (ofV b) := by
  have hi : tikref1_isNaN.f (b : Int) = some (nanB b) := congrArg some (isnan_eq hb)
  unfold tikref1_Of.f ofV
  rw [hi, Option.bind_some]
  by_cases q0 : nanB b = true
  · rw [if_pos q0, if_pos q0]
  · rw [if_neg q0, if_neg q0]
    by_cases q1 : 9223372036854775808 ≤ b
    · rw [if_pos (by omega), if_pos q1]
    · rw [if_neg (by omega), if_neg q1]
      by_cases q2 : b = 0
      · subst q2
        rw [if_pos (by omega), if_neg (by omega)]
        have n0 : nOf 0 = 0 := nOf_zero (by omega)
        rw [n0, if_neg (by omega)]
        decide +kernel
      · rw [if_neg (by omega)]
        by_cases q3 : 4652218415073722368 < b
        · rw [if_pos (by omega), if_pos q3]
        · rw [if_neg (by omega), if_neg q3]
          have hw : wrap64 ((b : Int) / 4503599627370496) = (b : Int) / 4503599627370496 := IntWalk.wrap64_in _ (by omega)
          have ha : Go.bits .and .u64 (b : Int) 4503599627370495 = ((b % 4503599627370496 : Nat) : Int) := by
            have := and_mask60 b 52 (by omega) hb
            rw [pow52] at this
            exact this
          have hj := of_j0 K (b := b) (by omega) (by omega)
          have hif : ∀ (x y : Int × Int × Int), (if nOf b = 0 then x else y) = (if nOf b = 0 ∧ 0 < b then x else y) := fun x y => by
            by_cases z : nOf b = 0
            · rw [if_pos z, if_pos ⟨z, by omega⟩]
            · rw [if_neg z, if_neg (fun h => z h.1)]
          rw [hif] at hj
          rw [hw, ha]
          by_cases q4 : b < 4503599627370496
          · have e := mg_sub q4
            rw [if_neg (by clear hw; omega)]
            rw [e.1, e.2] at hj
            rw [Nat.mod_eq_of_lt q4]
            exact hj
          · have e5 : mg b = 4503599627370496 + b % 4503599627370496 := (mg_norm (by omega)).symm
            have e6 : ((ex b + 1 : Nat) : Int) = (b : Int) / 4503599627370496 := by unfold ex; omega
            rw [if_pos (by clear hw; omega), or_52 _ (Nat.mod_lt _ (by decide)), ← e5, ← e6]
            exact hj

theorem of_any (K : Nat) {a : Int} {x y : Nat} (ha : U64 a) (hx : x < 18446744073709551616) (hy : y < 18446744073709551616) : tiklaw1_RateOf.f (K + 23) a x y = some true := by
  obtain ⟨b, rfl⟩ := Int.eq_ofNat_of_zero_le ha.1
  have hb : b < 18446744073709551616 := by have := ha.2; omega
  have hf : rate_From.f (b : Int) = some (canonV b) := by unfold rate_From.f; rw [if_pos ⟨by omega, by omega⟩, Int.toNat_natCast]
  have hf2 : tikref1_From.f (b : Int) = some (canonV b) := by unfold tikref1_From.f; rw [if_pos ⟨by omega, by omega⟩, Int.toNat_natCast]
  have hc := canon_lt hb
  have o1 : rate_Of.f (canonV b) = some (ofV (canonV b)) := if_pos hc
  have o2 := ref_of K hc
  have o3 : rate_Of.f x = some (ofV x) := if_pos hx
  have o4 := ref_of K hx
  have b1 : ∀ z, rate_Bits.f z = some (canonV z : Int) := fun z => rfl
  have b2 : ∀ z, z < 18446744073709551616 → tikref1_Bits.f z = some (canonV z : Int) := fun z hz => if_pos hz
  have pl : ∀ p q, tiklaw1_plain.f p q = some (p, q) := fun p q => rfl
  unfold tiklaw1_RateOf.f
  rw [rfirst_true, Option.bind_some, if_pos rfl, hf, Option.bind_some, o1, Option.bind_some, hf2, Option.bind_some, o2, Option.bind_some, o3, Option.bind_some, o4, Option.bind_some, Option.bind_some, if_pos rfl, pl, Option.bind_some, if_pos (by simp), if_pos rfl, pl, Option.bind_some, if_pos (by simp), if_pos rfl, Option.bind_some, b1, Option.bind_some, Option.bind_some, b2 _ hc, Option.bind_some, if_pos rfl, b1, Option.bind_some, b2 _ hx, Option.bind_some, if_pos rfl, order_f hx hy, Option.bind_some, rorder_f hx hy, Option.bind_some]
  simp
end Go.Proofs.YtpebcphkockkkaaDoor.Hand
