/-
  RateEdges: what is refused, and which; all that is taken is within half a step. No program.
-/
import Derived.Test.YtpebcphkockkkaaDoorPureF3
import Derived.Test.YtpebcphkockkkaaDoorPOx3
namespace Go.Proofs.YtpebcphkockkkaaDoor.Hand
open Go.RowKit Go.Proofs.YtpebcphkockkkaaDoorW.PrintWords Go.Proofs.YtpebcphkockkkaaDoorW.PrintLast Go.Proofs.YtpebcphkockkkaaDoorW.PrintMore Go.Proofs.YtpebcphkockkkaaDoor.PA Go.Proofs.YtpebcphkockkkaaDoor.PB Go.Proofs.YtpebcphkockkkaaDoor.PD Go.Proofs.YtpebcphkockkkaaDoor.PE Go.Proofs.YtpebcphkockkkaaDoor.PF Go.Proofs.YtpebcphkockkkaaDoor.PO
set_option linter.unusedSimpArgs false
set_option linter.unusedVariables false
set_option exponentiation.threshold 3000

theorem vl_half : vl 4512606826625236992 = 2 ^ 1053 := by decide +kernel
/-- Half a step. -/
theorem rne_near {n g : Nat} (hg : 0 < g) : 2 * (rne n g * g) ≤ 2 * n + g ∧ 2 * n ≤ 2 * (rne n g * g) + g := by
  unfold rne
  have e := Nat.div_add_mod n g
  have hl := Nat.mod_lt n hg
  rw [Nat.mul_comm] at e
  rw [Nat.add_mul]
  generalize n / g * g = q at *
  generalize n % g = r at *
  split
  · rename_i h
    rw [Nat.one_mul]
    rcases h with h | h <;> omega
  · rename_i h
    rw [Nat.zero_mul]
    have : ¬ g < 2 * r := fun h2 => h (.inl h2)
    omega
/-- What rate.Of rounds to lies within half a step of the float. -/
theorem nOf_near {x : Nat} (h : ex x ≤ 1054) : 2 * (nOf x * 2 ^ 1054) ≤ 2 * vl x + 2 ^ 1054 ∧ 2 * vl x ≤ 2 * (nOf x * 2 ^ 1054) + 2 ^ 1054 := by
  have hg := rne_near (n := mg x) (Nat.two_pow_pos (1054 - ex x))
  have e : (2 : Nat) ^ 1054 = 2 ^ (1054 - ex x) * 2 ^ ex x := by rw [← Nat.pow_add, Nat.sub_add_cancel h]
  unfold nOf vl
  rw [e]
  generalize (2 : Nat) ^ (1054 - ex x) = G at *
  generalize (2 : Nat) ^ ex x = E
  generalize rne (mg x) G = R at *
  generalize mg x = M at *
  obtain ⟨h1, h2⟩ := hg
  have k1 := Nat.mul_le_mul_right E h1
  have k2 := Nat.mul_le_mul_right E h2
  rw [Nat.add_mul] at k1 k2
  have a1 : 2 * (R * G) * E = 2 * (R * (G * E)) := by rw [Nat.mul_assoc 2, Nat.mul_assoc R]
  have a2 : 2 * M * E = 2 * (M * E) := by rw [Nat.mul_assoc 2]
  rw [a1, a2] at k1 k2
  exact ⟨k1, k2⟩
/-- The difference of two floats that are not below nought, of values that lie near. -/
theorem sub_near {w x : Nat} (hw : w < 9218868437227405312) (hx : x < 9218868437227405312) (h1 : vl w ≤ vl x + 2 ^ 1053) (h2 : vl x ≤ vl w + 2 ^ 1053) :
    ∃ z neg, dbl.sub w x = some (dbl.word neg z) ∧ z ≤ 4512606826625236992 := by
  have hs : (dbl.read w).sum (dbl.read x).opposite = some (.number (if Ieee.signed false (mg w) (ex w - min (ex w) (ex x)) + Ieee.signed true (mg x) (ex x - min (ex w) (ex x)) = 0 then false else decide (Ieee.signed false (mg w) (ex w - min (ex w) (ex x)) + Ieee.signed true (mg x) (ex x - min (ex w) (ex x)) < 0)) (Ieee.signed false (mg w) (ex w - min (ex w) (ex x)) + Ieee.signed true (mg x) (ex x - min (ex w) (ex x))).natAbs (-1074 + ((min (ex w) (ex x) : Nat) : Int))) := by
    rw [read_pos hw, read_pos hx]
    have e1 : (-1074 + (ex w : Int) - min (-1074 + (ex w : Int)) (-1074 + (ex x : Int))).toNat = ex w - min (ex w) (ex x) := by omega
    have e2 : (-1074 + (ex x : Int) - min (-1074 + (ex w : Int)) (-1074 + (ex x : Int))).toNat = ex x - min (ex w) (ex x) := by omega
    have e3 : min (-1074 + (ex w : Int)) (-1074 + (ex x : Int)) = -1074 + ((min (ex w) (ex x) : Nat) : Int) := by omega
    show some (Ieee.Datum.number _ _ _) = _
    rw [e1, e2, e3]; rfl
  unfold Ieee.Format.sub
  rw [hs, Option.map_some]
  clear hs
  rw [signed_eq, signed_eq, if_neg (show ¬ (false = true) by decide), if_pos rfl]
  generalize hb : min (ex w) (ex x) = b
  have v1 : mg w * 2 ^ (ex w - b) * 2 ^ b = vl w := by unfold vl; rw [Nat.mul_assoc, ← Nat.pow_add, show ex w - b + b = ex w by omega]
  have v2 : mg x * 2 ^ (ex x - b) * 2 ^ b = vl x := by unfold vl; rw [Nat.mul_assoc, ← Nat.pow_add, show ex x - b + b = ex x by omega]
  generalize mg w * 2 ^ (ex w - b) = A at *
  generalize mg x * 2 ^ (ex x - b) = B at *
  generalize ht : ((A : Int) + -(B : Int)).natAbs = t
  have hv : t * 2 ^ b ≤ 2 ^ 1053 := by
    have p := Nat.two_pow_pos b
    rw [← v1, ← v2] at h1 h2
    generalize (2 : Nat) ^ 1053 = P at *
    generalize (2 : Nat) ^ b = Q at *
    rcases Nat.le_total B A with g | g
    · have : t = A - B := by omega
      rw [this, Nat.sub_mul]; omega
    · have : t = B - A := by omega
      rw [this, Nat.sub_mul]; omega
  generalize (if (A : Int) + -(B : Int) = 0 then false else decide ((A : Int) + -(B : Int) < 0)) = neg
  by_cases h0 : t = 0
  · refine ⟨0, neg, congrArg some ?_, Nat.zero_le _⟩
    show dbl.nearest neg t _ = _
    unfold Ieee.Format.nearest
    exact if_pos h0
  · refine ⟨min (rungV 0 (t * 2 ^ b)) 9218868437227405312, neg, congrArg some (near_rung neg t 0 b _ h0 (by omega)), ?_⟩
    have := rungV_mono (K := 0) (V := t * 2 ^ b) (W := vl 4512606826625236992 * 2 ^ 0) (by rw [vl_half, Nat.pow_zero, Nat.mul_one]; exact hv)
    rw [rungV_exact] at this
    exact Nat.le_trans (Nat.min_le_left _ _) this
/-- Too small to be a speed: half a step at most. -/
theorem small_le {x : Nat} (h : ex x ≤ 1054) (hn : nOf x = 0) : x ≤ 4512606826625236992 := by
  have h2 := (nOf_near h).2
  rw [hn, Nat.zero_mul, Nat.mul_zero, Nat.zero_add] at h2
  rcases Nat.lt_or_ge 4512606826625236992 x with g | g
  · have := vl_mono g
    rw [vl_half] at this
    have e : (2 : Nat) ^ 1054 = 2 * 2 ^ 1053 := by rw [Nat.pow_succ 2 1053, Nat.mul_comm]
    rw [e] at h2
    exact absurd (Nat.lt_of_lt_of_le this (Nat.le_of_mul_le_mul_left h2 (by decide))) (Nat.lt_irrefl _)
  · exact g
theorem may_yes {m k : Nat} (hk : k ≤ 20) (hm : m ≤ 1024 * 2 ^ k) (odd : k = 0 ∨ m % 2 = 1) : rate_May.f (m : Int) (2 ^ k) = some true := by
  obtain ⟨p1, p2⟩ := pow_20 k hk
  obtain ⟨f1, f2, f3⟩ := pop21 ⟨k, by omega⟩
  dsimp only at f1 f2 f3
  have p3 : (2 : Nat) ^ k ≤ 2 ^ 20 := Nat.pow_le_pow_right (by decide) hk
  have p4 : (2 : Nat) ^ 20 = 1048576 := by decide
  have hm2 : (m : Int) ≤ 1024 * 2 ^ k := by
    have : ((1024 * 2 ^ k : Nat) : Int) = 1024 * 2 ^ k := by rw [Int.natCast_mul, Int.natCast_pow]; rfl
    omega
  unfold rate_May.f
  rw [f1, Option.bind_some, if_pos rfl, if_pos p2, f3, if_pos hm2, and_one _ ⟨by omega, by omega⟩]
  by_cases q : (2 : Int) ^ k = 1
  · rw [if_pos q]
  · rw [if_neg q]
    rcases odd with h | h
    · subst h; exact absurd rfl q
    · have : ((m : Int) % 2 == 1) = true := beq_iff_eq.mpr (by omega)
      rw [this]
theorem word_neg {z : Nat} (h : z ≤ 9218868437227405312) (neg : Bool) : Op.negFloat .f64 (dbl.word neg z) = dbl.word (!neg) z := by
  show dbl.word neg z ^^^ 2 ^ 63 = _
  have hz : z < 2 ^ 63 := by rw [p63]; omega
  have e1 : 2 ^ 63 + z = 2 ^ 63 ||| z := by
    have := Nat.two_pow_add_eq_or_of_lt (i := 63) hz 1
    rw [Nat.mul_one] at this; exact this
  have x1 : z ^^^ 2 ^ 63 = 2 ^ 63 + z := by
    rw [e1]
    apply Nat.eq_of_testBit_eq
    intro i
    rw [Nat.testBit_xor, Nat.testBit_or, Nat.testBit_two_pow]
    by_cases q : 63 = i
    · subst q; simp [Nat.testBit_lt_two_pow hz]
    · simp [q]
  unfold Ieee.Format.word
  rw [dbl_sw]
  cases neg
  · rw [if_neg (by decide), if_pos (by decide), x1, p63]
  · rw [if_pos rfl, if_neg (by decide), ← p63, ← x1, Nat.xor_assoc, Nat.xor_self, Nat.xor_zero]
theorem half_le {z : Nat} (h : z ≤ 4512606826625236992) (neg : Bool) : (FloatKind.f64.format.order (dbl.word neg z) 4512606826625236992 == some Ordering.lt || FloatKind.f64.format.order (dbl.word neg z) 4512606826625236992 == some Ordering.eq) = true := by
  show (dbl.order (dbl.word neg z) 4512606826625236992 == some Ordering.lt || dbl.order (dbl.word neg z) 4512606826625236992 == some Ordering.eq) = true
  have hc : nanB 4512606826625236992 = false := by decide +kernel
  have hk : key 4512606826625236992 = 4512606826625236992 := by decide +kernel
  have hw : nanB (dbl.word neg z) = false ∧ key (dbl.word neg z) ≤ 4512606826625236992 := by
    unfold Ieee.Format.word nanB key
    rw [dbl_sw]
    cases neg
    · rw [if_neg (by decide), Nat.div_eq_of_lt (by omega), Nat.mod_eq_of_lt (show z < 9223372036854775808 by omega)]
      refine ⟨decide_eq_false (by omega), ?_⟩
      show (z : Int) ≤ _; omega
    · have e1 : (9223372036854775808 + z) % 9223372036854775808 = z := by omega
      have e2 : (9223372036854775808 + z) / 9223372036854775808 % 2 = 1 := by omega
      rw [if_pos rfl, e1, e2]
      refine ⟨decide_eq_false (by omega), ?_⟩
      show -(z : Int) ≤ _; omega
  rw [ord_key hw.1 hc, hk]
  generalize key (dbl.word neg z) = y at *
  obtain ⟨_, h2⟩ := hw
  rcases Int.lt_trichotomy y 4512606826625236992 with g | g | g
  · rw [Int.compare_eq_lt.2 g]; rfl
  · rw [Int.compare_eq_eq.2 g]; rfl
  · omega
theorem edge_near {n V x : Nat} (hv : V = n * 2 ^ 1054) (h : 2 * (n * 2 ^ 1054) ≤ 2 * vl x + 2 ^ 1054 ∧ 2 * vl x ≤ 2 * (n * 2 ^ 1054) + 2 ^ 1054) : V ≤ vl x + 2 ^ 1053 ∧ vl x ≤ V + 2 ^ 1053 := by
  have e : (2 : Nat) ^ 1054 = 2 * 2 ^ 1053 := by rw [Nat.pow_succ 2 1053, Nat.mul_comm]
  rw [← hv] at h
  rw [e] at h
  generalize (2 : Nat) ^ 1053 = P at *
  generalize vl x = X at *
  clear hv e
  omega
theorem ofV_yes {x : Nat} (hn : nanB x = false) (h : x ≤ 4652218415073722368) (h0 : nOf x ≠ 0) : ofV x = (((nOf x / 2 ^ byOf (nOf x) : Nat) : Int), 2 ^ (20 - byOf (nOf x)), 0) := by
  unfold ofV
  rw [hn, if_neg (by decide), if_neg (by omega), if_neg (by omega), if_neg (fun z => h0 z.1)]
theorem edges_any {x : Nat} (hx : x < 18446744073709551616) : tiklaw1_RateEdges.f x = some true := by
  have ho : rate_Of.f x = some (ofV x) := if_pos hx
  have hb : rate_Bits.f x = some (canonV x : Int) := rfl
  have n1 : (FloatKind.f64.format.order x x != some Ordering.eq) = nanB x := ord_self x
  unfold tiklaw1_RateEdges.f
  rw [rfirst_true, Option.bind_some, if_pos rfl, ho, Option.bind_some, n1]
  cases hn : nanB x with
  | true =>
    have e : ofV x = (0, 0, 10) := by unfold ofV; rw [if_pos hn]
    rw [if_pos rfl, Option.bind_some, if_pos rfl, e]; rfl
  | false =>
    have hs := sign_shr x hx
    rw [if_neg (by decide), hb, Option.bind_some, (canon_ne hn).1]
    by_cases q1 : 9223372036854775808 ≤ x
    · have e : ofV x = (0, 0, 11) := by unfold ofV; rw [hn, if_neg (by decide), if_pos q1]
      rw [if_pos (show (x : Int) / 9223372036854775808 = 1 by omega), Option.bind_some, if_pos rfl, e]; rfl
    · have hle := nan_pos hn (by omega)
      have g1 : (FloatKind.f64.format.order x 4652218415073722368 == some Ordering.gt) = decide (4652218415073722368 < x) := ord_gt hle (by decide)
      rw [if_neg (show ¬ (x : Int) / 9223372036854775808 = 1 by omega), g1]
      by_cases q2 : 4652218415073722368 < x
      · have e : ofV x = (0, 0, 1) := by unfold ofV; rw [hn, if_neg (by decide), if_neg q1, if_pos q2]
        rw [decide_eq_true q2, if_pos rfl, Option.bind_some, if_pos rfl, e]; rfl
      · rw [decide_eq_false q2, if_neg (by decide)]
        have hx2 : ex x ≤ 1054 := by unfold ex; omega
        have g2 : (FloatKind.f64.format.order x 0 == some Ordering.eq) = decide (x = 0) := by
          show (dbl.order x 0 == some Ordering.eq) = _
          rw [ord_key hn (pos_nan (by omega)), key_pos hle, key_pos (show 0 ≤ 9218868437227405312 by omega)]
          by_cases z : x = 0
          · rw [decide_eq_true z, Int.compare_eq_eq.2 (show (x : Int) = ((0 : Nat) : Int) by omega)]; rfl
          · rw [decide_eq_false z, Int.compare_eq_gt.2 (show (x : Int) > ((0 : Nat) : Int) by omega)]; rfl
        rw [g2]
        by_cases q3 : x = 0
        · subst q3
          have e : ofV 0 = (0, 1, 0) := by decide +kernel
          rw [decide_eq_true rfl, if_pos rfl, Option.bind_some, if_pos rfl, e]; rfl
        · rw [decide_eq_false q3, if_neg (by decide)]
          by_cases q4 : nOf x = 0
          · have e : ofV x = (0, 0, 1) := by unfold ofV; rw [hn, if_neg (by decide), if_neg q1, if_neg q2, if_pos ⟨q4, by omega⟩]
            have hh := half_le (small_le hx2 q4) false
            rw [show dbl.word false x = x from word_pos x] at hh
            rw [e, if_neg (by decide), Option.bind_some, if_pos rfl]
            refine (if_pos rfl).trans ((if_pos hh).trans ?_)
            rfl
          · obtain ⟨k, hk, ek, hm, odd, hback⟩ := least_parts (nOf_le (r := x) (by omega))
            have e := ofV_yes hn (by omega) q4
            rw [ek] at e
            generalize nOf x / 2 ^ byOf (nOf x) = m at *
            have may := may_yes hk hm odd
            obtain ⟨w, hf, hw, hv, _⟩ := float_back (n := (m : Int)) (d := 2 ^ k) ⟨may, hk, rfl, rfl, hm, odd⟩
            have hvw : vl w = nOf x * 2 ^ 1054 := by
              rw [hv, ← hback, Nat.mul_assoc, ← Nat.pow_add 2 (20 - k) 1054, show 20 - k + 1054 = 1074 - k by omega]
            have near := edge_near hvw (nOf_near hx2)
            obtain ⟨z, neg, hsub, hz⟩ := sub_near (w := w) (x := x) (by omega) (by omega) near.1 near.2
            have hsub' : FloatKind.f64.format.sub w x = some (dbl.word neg z) := hsub
            have hm0 : (m : Int) > 0 := by
              rcases Nat.eq_zero_or_pos m with g | g
              · rw [g, Nat.zero_mul] at hback; exact absurd hback.symm q4
              · omega
            clear hv hvw near hback hsub
            have c1 := half_le hz neg
            have c2 := half_le hz (!neg)
            rw [← word_neg (by omega) neg] at c2
            rw [e, if_pos rfl]
            show (rate_Speed_Float.f (m : Int) (2 ^ k)).bind _ = _
            rw [hf, Option.bind_some, hsub', if_pos (show (some (dbl.word neg z)).isSome = true from rfl), Option.bind_some, if_pos rfl]
            show (rate_May.f (m : Int) (2 ^ k)).bind _ = _
            rw [may, Option.bind_some, if_pos rfl, Option.getD_some, if_pos c1, if_pos c2]
            show some (decide ((m : Int) > 0)) = some true
            rw [decide_eq_true hm0]
end Go.Proofs.YtpebcphkockkkaaDoor.Hand
