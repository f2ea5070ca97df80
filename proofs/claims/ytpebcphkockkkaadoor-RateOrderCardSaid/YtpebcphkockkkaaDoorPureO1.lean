/-
  RateOrder: the order of floats goes through; NaN stands last; both noughts apart. No program.
-/
import Derived.Test.YtpebcphkockkkaaDoorPureF2
import Derived.Test.YtpebcphkockkkaaDoorPOx2
namespace Go.Proofs.YtpebcphkockkkaaDoor.Hand
open Go.RowKit Go.Proofs.YtpebcphkockkkaaDoorW.PrintWords Go.Proofs.YtpebcphkockkkaaDoorW.PrintLast Go.Proofs.YtpebcphkockkkaaDoorW.PrintMore Go.Proofs.YtpebcphkockkkaaDoor.PA Go.Proofs.YtpebcphkockkkaaDoor.PB Go.Proofs.YtpebcphkockkkaaDoor.PD Go.Proofs.YtpebcphkockkkaaDoor.PE Go.Proofs.YtpebcphkockkkaaDoor.PF Go.Proofs.YtpebcphkockkkaaDoor.PO
set_option linter.unusedSimpArgs false
set_option linter.unusedVariables false
set_option exponentiation.threshold 3000

theorem rk_inj {u v : Nat} (hu : u < 18446744073709551616) (hv : v < 18446744073709551616) (h : rk u = rk v) : u = v := by
  unfold rk at h
  split at h <;> split at h <;> omega
theorem key_word {b : Nat} (h : b < 18446744073709551616) : key b = if 9223372036854775808 ≤ b then -((b : Int) - 9223372036854775808) else (b : Int) := by
  unfold key
  by_cases q : 9223372036854775808 ≤ b
  · have e1 : b / 9223372036854775808 % 2 = 1 := by omega
    have e2 : ((b % 9223372036854775808 : Nat) : Int) = (b : Int) - 9223372036854775808 := by omega
    rw [e1, e2, if_pos q]; rfl
  · have e1 : b / 9223372036854775808 % 2 = 0 := by omega
    have e2 : ((b % 9223372036854775808 : Nat) : Int) = (b : Int) := by omega
    rw [e1, e2, if_neg q]; rfl
theorem ord_some {a b : Nat} {o : Ordering} (h : dbl.order a b = some o) : nanB a = false ∧ nanB b = false := by
  constructor
  · cases q : nanB a with
    | false => rfl
    | true => rw [ord_nan (.inl q)] at h; cases h
  · cases q : nanB b with
    | false => rfl
    | true => rw [ord_nan (.inr q)] at h; cases h
theorem lt_rank {a b : Nat} (ha : a < 18446744073709551616) (hb : b < 18446744073709551616) (h : (FloatKind.f64.format.order a b == some Ordering.lt) = true) : cmpV (rk (canonV a) : Nat) (rk (canonV b) : Nat) = -1 := by
  have h1 : dbl.order a b = some .lt := eq_of_beq h
  obtain ⟨na, nb⟩ := ord_some h1
  rw [ord_key na nb] at h1
  have h2 := Int.compare_eq_lt.1 (Option.some.inj h1)
  rw [key_word ha, key_word hb] at h2
  rw [(canon_ne na).1, (canon_ne nb).1]
  unfold cmpV rk
  refine if_pos ?_
  split at h2 <;> split at h2
  all_goals
    simp only [*, if_true, if_false]
    omega
theorem nought_same {a b : Nat} (ha : a < 18446744073709551616) (hb : b < 18446744073709551616) (h : dbl.order a 0 = some .eq) (hx : cmpV (rk (canonV a) : Nat) (rk (canonV b) : Nat) = 0) : (FloatKind.f64.format.order b 0 == some Ordering.eq) = true := by
  obtain ⟨na, _⟩ := ord_some h
  have hr : rk (canonV a) = rk (canonV b) := by
    unfold cmpV at hx
    split at hx
    · cases hx
    · split at hx
      · cases hx
      · omega
  have e := rk_inj (canon_lt ha) (canon_lt hb) hr
  obtain ⟨ea, hne⟩ := canon_ne na
  have : b = a := by
    cases nb : nanB b with
    | true => rw [canon_nan nb, ea] at e; exact absurd e hne
    | false => rw [(canon_ne nb).1, ea] at e; exact e.symm
  rw [this]
  show (dbl.order a 0 == some Ordering.eq) = true
  rw [h]; rfl
theorem cmp_cases (x y : Nat) : (cmpV x y = -1 ∧ x < y) ∨ (cmpV x y = 0 ∧ x = y) ∨ (cmpV x y = 1 ∧ y < x) := by
  unfold cmpV
  by_cases h1 : (x : Int) < y
  · rw [if_pos h1]; exact .inl ⟨rfl, by omega⟩
  · rw [if_neg h1]
    by_cases h2 : (x : Int) > y
    · rw [if_pos h2]; exact .inr (.inr ⟨rfl, by omega⟩)
    · rw [if_neg h2]; exact .inr (.inl ⟨rfl, by omega⟩)
theorem from_nan : rate_From.f 9218868437227405313 = some 9221120237041090560 ∧ rate_From.f 18442240474082181125 = some 9221120237041090560 := by decide +kernel
theorem order_nan : rate_Order.f 9221120237041090560 9221120237041090560 = some 0 := by decide +kernel
theorem eq_of_bne_false {x y : Option Ordering} (h : (x != y) = false) : x = y := by
  cases x <;> cases y <;> simp_all
theorem order_j0 (K : Nat) {a b : Nat} (ha : a < 18446744073709551616) (hb : b < 18446744073709551616) : tiklaw1_RateOrder.j0 (K + 1) a b (cmpV (rk (canonV a) : Nat) (rk (canonV b) : Nat)) false = some true := by
  have o := order_f (a := a) (b := 9221120237041090560) ha (by decide)
  have hle : cmpV (rk (canonV a) : Nat) (rk (canonV 9221120237041090560) : Nat) ≤ 0 := by
    have e : rk (canonV 9221120237041090560) = 18444492273895866368 := by decide +kernel
    rw [e]
    have : rk (canonV a) ≤ 18444492273895866368 := by
      cases q : nanB a with
      | true => rw [rk_nan q]; exact Nat.le_refl _
      | false => have := rk_num q ha; omega
    rcases cmp_cases (rk (canonV a)) 18444492273895866368 with h | h | h
    · rw [h.1]; decide
    · rw [h.1]; decide
    · omega
  have last : (if (FloatKind.f64.format.order a b == some Ordering.lt) = true then some (cmpV (rk (canonV a) : Nat) (rk (canonV b) : Nat) == -1) else some true) = some true := by
    by_cases q : (FloatKind.f64.format.order a b == some Ordering.lt) = true
    · rw [if_pos q, lt_rank ha hb q]; rfl
    · rw [if_neg q]
  rw [tiklaw1_RateOrder.j0, if_neg (by decide), from_nan.1, from_nan.2, Option.bind_some, rfirst_true, Option.bind_some, if_pos rfl, o, Option.bind_some, if_pos hle, Option.bind_some, order_nan, Option.bind_some, if_pos rfl]
  by_cases q1 : (FloatKind.f64.format.order a 0 != some Ordering.eq) = true
  · rw [if_pos q1]; exact last
  · rw [if_neg q1]
    by_cases q2 : cmpV (rk (canonV a) : Nat) (rk (canonV b) : Nat) = 0
    · have h0 : dbl.order a 0 = some .eq := by
        have : (FloatKind.f64.format.order a 0 != some Ordering.eq) = false := Bool.eq_false_iff.mpr q1
        exact eq_of_bne_false this
      rw [if_pos q2, if_pos (nought_same ha hb h0 q2)]; exact last
    · rw [if_neg q2]; exact last
theorem order_any (K : Nat) {a b c : Nat} (ha : a < 18446744073709551616) (hb : b < 18446744073709551616) (hc : c < 18446744073709551616) : tiklaw1_RateOrder.f (K + 1) a b c = some true := by
  have b1 : ∀ z, rate_Bits.f z = some (canonV z : Int) := fun z => rfl
  have j := order_j0 K ha hb
  have hanti : cmpV (rk (canonV a) : Nat) (rk (canonV b) : Nat) = wrap64 (-(cmpV (rk (canonV b) : Nat) (rk (canonV a) : Nat))) := by
    rcases cmp_cases (rk (canonV a)) (rk (canonV b)) with h | h | h <;> rcases cmp_cases (rk (canonV b)) (rk (canonV a)) with g | g | g <;> first | omega | (rw [h.1, g.1]; decide +kernel)
  have hself : cmpV (rk (canonV a) : Nat) (rk (canonV a) : Nat) = 0 := by
    rcases cmp_cases (rk (canonV a)) (rk (canonV a)) with h | h | h
    · omega
    · exact h.1
    · omega
  have hbits : ((cmpV (rk (canonV a) : Nat) (rk (canonV b) : Nat) == 0) != ((canonV a : Int) == (canonV b : Int))) = false := by
    have : (cmpV (rk (canonV a) : Nat) (rk (canonV b) : Nat) == 0) = ((canonV a : Int) == (canonV b : Int)) := by
      rcases cmp_cases (rk (canonV a)) (rk (canonV b)) with h | h | h
      · rw [h.1]
        have : canonV a ≠ canonV b := fun e => by rw [e] at h; omega
        rw [show ((canonV a : Int) == (canonV b : Int)) = false from beq_eq_false_iff_ne.mpr (by omega)]; rfl
      · rw [h.1, rk_inj (canon_lt ha) (canon_lt hb) h.2]; simp
      · rw [h.1]
        have : canonV a ≠ canonV b := fun e => by rw [e] at h; omega
        rw [show ((canonV a : Int) == (canonV b : Int)) = false from beq_eq_false_iff_ne.mpr (by omega)]; rfl
    rw [this]; simp
  unfold tiklaw1_RateOrder.f
  rw [rfirst_true, Option.bind_some, if_pos rfl, order_f ha hb, Option.bind_some, order_f hb hc, Option.bind_some, order_f ha hc, Option.bind_some, order_f hb ha, Option.bind_some, if_pos hanti, order_f ha ha, Option.bind_some, if_pos hself, b1, b1, Option.bind_some, Option.bind_some, hbits, if_neg (by decide)]
  by_cases q1 : cmpV (rk (canonV a) : Nat) (rk (canonV b) : Nat) ≤ 0
  · rw [if_pos q1]
    by_cases q2 : cmpV (rk (canonV b) : Nat) (rk (canonV c) : Nat) ≤ 0
    · rw [if_pos q2]
      have : ¬ cmpV (rk (canonV a) : Nat) (rk (canonV c) : Nat) > 0 := by
        rcases cmp_cases (rk (canonV a)) (rk (canonV b)) with h | h | h <;> rcases cmp_cases (rk (canonV b)) (rk (canonV c)) with g | g | g <;> rcases cmp_cases (rk (canonV a)) (rk (canonV c)) with f | f | f <;> omega
      rw [decide_eq_false this]; exact j
    · rw [if_neg q2]; exact j
  · rw [if_neg q1]; exact j
end Go.Proofs.YtpebcphkockkkaaDoor.Hand
