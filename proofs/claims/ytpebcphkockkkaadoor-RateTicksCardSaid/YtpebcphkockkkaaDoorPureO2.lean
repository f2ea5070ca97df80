/-
  RateTicks: whole seconds are a thousand ticks each, there and back; a later time has no fewer. No program.
-/
import Derived.Test.YtpebcphkockkkaaDoorPureF2
import Derived.Test.YtpebcphkockkkaaDoorFlt3
import Derived.Test.YtpebcphkockkkaaDoorPOx2
namespace Go.Proofs.YtpebcphkockkkaaDoor.Hand
open Go.RowKit Go.Proofs.YtpebcphkockkkaaDoorW.PrintWords Go.Proofs.YtpebcphkockkkaaDoorW.PrintLast Go.Proofs.YtpebcphkockkkaaDoorW.PrintMore Go.Proofs.YtpebcphkockkkaaDoor.PA Go.Proofs.YtpebcphkockkkaaDoor.PB Go.Proofs.YtpebcphkockkkaaDoor.PD Go.Proofs.YtpebcphkockkkaaDoor.PE Go.Proofs.YtpebcphkockkkaaDoor.PF Go.Proofs.YtpebcphkockkkaaDoor.PO
set_option linter.unusedSimpArgs false
set_option linter.unusedVariables false
set_option exponentiation.threshold 3000

theorem ticks_nat {m : Nat} (hm : m ≤ 1099511627776) : ∃ a, floatOfInt .f64 (m : Int) = a ∧ a < 18446744073709551616 ∧ ticksV a = (((1000 * m : Nat) : Int), 0) ∧ rate_Seconds.f ((1000 * m : Nat) : Int) = some a ∧ nanB a = false := by
  by_cases h0 : m = 0
  · subst h0
    exact ⟨0, by decide +kernel, by decide, by decide +kernel, by decide +kernel, by decide +kernel⟩
  · obtain ⟨a, r, ea, er, a2, hr, hp, hv, hs⟩ := thousand h0 hm
    have hn : nanB a = false := pos_nan (Nat.le_of_lt a2)
    have h63 : ¬ 9223372036854775808 ≤ a := by clear hv; omega
    have h53 : ¬ 4845873199050653696 < p1000 a := by rw [hp]; clear hv; omega
    refine ⟨a, ea, by clear hv; omega, ?_, ?_, hn⟩
    · unfold ticksV
      rw [hn, if_neg (by decide), if_neg h63, if_neg h53, hp, hv]
    · unfold rate_Seconds.f
      rw [er]; exact hs
theorem ticks_ok {x : Nat} (h : (ticksV x).2 = 0) : nanB x = false ∧ x < 9223372036854775808 ∧ (ticksV x).1 = ((vl (p1000 x) / 2 ^ 1074 : Nat) : Int) := by
  unfold ticksV at h ⊢
  by_cases q1 : nanB x = true
  · rw [if_pos q1] at h; cases h
  · rw [if_neg q1] at h ⊢
    by_cases q2 : 9223372036854775808 ≤ x
    · rw [if_pos q2] at h; cases h
    · rw [if_neg q2] at h ⊢
      by_cases q3 : 4845873199050653696 < p1000 x
      · rw [if_pos q3] at h; cases h
      · rw [if_neg q3]
        exact ⟨by simpa using q1, by omega, rfl⟩
theorem ticks_mono {x y : Nat} (hx : (ticksV x).2 = 0) (hy : (ticksV y).2 = 0) (h : (FloatKind.f64.format.order x y == some Ordering.lt || FloatKind.f64.format.order x y == some Ordering.eq) = true) : (ticksV x).1 ≤ (ticksV y).1 := by
  obtain ⟨nx, lx, ex_⟩ := ticks_ok hx
  obtain ⟨ny, ly, ey_⟩ := ticks_ok hy
  have bx := nan_pos nx lx
  have by_ := nan_pos ny ly
  have hle : x ≤ y := by
    have e : dbl.order x y = some (compare (x : Int) (y : Int)) := by rw [ord_key nx ny, key_pos bx, key_pos by_]
    have h' : (dbl.order x y == some Ordering.lt || dbl.order x y == some Ordering.eq) = true := h
    rw [e] at h'
    rcases Int.lt_trichotomy (x : Int) (y : Int) with g | g | g
    · omega
    · omega
    · rw [Int.compare_eq_gt.2 g] at h'; exact absurd h' (by decide)
  rw [ex_, ey_]
  have := Nat.div_le_div_right (c := 2 ^ 1074) (vl_le (p1000_mono hle by_))
  exact Int.ofNat_le.2 this
theorem ticks_err {x : Nat} (h : (ticksV x).2 ≠ 0) : (ticksV x).1 = 0 := by
  unfold ticksV at h ⊢
  by_cases q1 : nanB x = true
  · rw [if_pos q1]
  · rw [if_neg q1] at h ⊢
    by_cases q2 : 9223372036854775808 ≤ x
    · rw [if_pos q2]
    · rw [if_neg q2] at h ⊢
      by_cases q3 : 4845873199050653696 < p1000 x
      · rw [if_pos q3]
      · rw [if_neg q3] at h; exact absurd rfl h
theorem ticks_nan (x : Nat) : ((ticksV x).2 == 10) = nanB x := by
  unfold ticksV
  by_cases q1 : nanB x = true
  · rw [if_pos q1, q1]; rfl
  · rw [if_neg q1, show nanB x = false by simpa using q1]
    by_cases q2 : 9223372036854775808 ≤ x
    · rw [if_pos q2]; rfl
    · rw [if_neg q2]
      by_cases q3 : 4845873199050653696 < p1000 x
      · rw [if_pos q3]; rfl
      · rw [if_neg q3]; rfl
theorem ticks_sign {x : Nat} (hn : nanB x = false) : ((ticksV x).2 == 11) = decide (9223372036854775808 ≤ x) := by
  unfold ticksV
  rw [if_neg (by rw [hn]; decide)]
  by_cases q2 : 9223372036854775808 ≤ x
  · rw [if_pos q2, decide_eq_true q2]; rfl
  · rw [if_neg q2, decide_eq_false q2]
    by_cases q3 : 4845873199050653696 < p1000 x
    · rw [if_pos q3]; rfl
    · rw [if_neg q3]; rfl
theorem ord_refl {x : Nat} (hn : nanB x = false) : (FloatKind.f64.format.order x x == some Ordering.eq) = true := by
  have h : (dbl.order x x != some Ordering.eq) = nanB x := ord_self x
  rw [hn] at h
  show (dbl.order x x == some Ordering.eq) = true
  simpa using h
theorem ticks_j0 (K : Nat) {x y : Nat} (hx : x < 18446744073709551616) (hy : y < 18446744073709551616) : tiklaw1_RateTicks.j0 (K + 1) x y false = some true := by
  have t1 : rate_Ticks.f x = some (ticksV x) := if_pos hx
  have t2 : rate_Ticks.f y = some (ticksV y) := if_pos hy
  have b1 : rate_Bits.f x = some (canonV x : Int) := rfl
  have n1 : (FloatKind.f64.format.order x x != some Ordering.eq) = nanB x := ord_self x
  have n2 := ticks_nan x
  rw [tiklaw1_RateTicks.j0, if_neg (by decide), t1, Option.bind_some, t2, Option.bind_some, n1, n2]
  rw [if_neg (by simp)]
  by_cases q : (ticksV x).2 = 0
  · obtain ⟨nx, lx, _⟩ := ticks_ok q
    have s := ticks_sign nx
    rw [decide_eq_false (by omega)] at s
    have hb : ((canonV x : Int) / 9223372036854775808 == 1) = false := by
      rw [(canon_ne nx).1, sign_shr x hx, decide_eq_false (by omega)]
    rw [if_pos q, if_pos (ord_refl nx), b1, Option.bind_some, s, hb, if_neg (by decide), rfirst_true, Option.bind_some, if_pos rfl]
    by_cases q2 : (ticksV y).2 = 0
    · rw [if_pos q2]
      by_cases q3 : (FloatKind.f64.format.order x y == some Ordering.lt || FloatKind.f64.format.order x y == some Ordering.eq) = true
      · rw [if_pos q3, decide_eq_true (ticks_mono q q2 q3)]
      · rw [if_neg q3]
    · rw [if_neg q2]
  · rw [if_neg q, if_pos (ticks_err q)]
    cases nx : nanB x with
    | false =>
      have s := ticks_sign nx
      have hb := sign_shr x hx
      rw [if_pos (ord_refl nx), b1, Option.bind_some, (canon_ne nx).1, s, hb, if_neg (by simp), rfirst_true]; rfl
    | true =>
      have ho : ¬ (FloatKind.f64.format.order x x == some Ordering.eq) = true := by
        have : dbl.order x x = none := ord_nan (.inl nx)
        show ¬ (dbl.order x x == some Ordering.eq) = true
        rw [this]; decide
      have h10 : (ticksV x).2 = 10 := by rw [nx] at n2; exact eq_of_beq n2
      rw [if_neg ho, h10, if_neg (by decide), rfirst_true]; rfl
theorem ticks_any (K : Nat) {n : Int} {x y : Nat} (hn : U64 n) (hx : x < 18446744073709551616) (hy : y < 18446744073709551616) : tiklaw1_RateTicks.f (K + 1) n x y = some true := by
  unfold tiklaw1_RateTicks.f
  rw [rfirst_true, Option.bind_some, if_pos rfl]
  by_cases q : n > 1099511627776
  · rw [if_pos q]; rfl
  · obtain ⟨m, rfl⟩ := Int.eq_ofNat_of_zero_le hn.1
    obtain ⟨a, ea, ha, ht, hs, hna⟩ := ticks_nat (m := m) (by omega)
    have h1 : rate_Ticks.f a = some (((1000 * m : Nat) : Int), 0) := by unfold rate_Ticks.f; rw [if_pos ha, ht]
    have w : IntKind.u64.wrap (1000 * (m : Int)) = ((1000 * m : Nat) : Int) := by rw [IntWalk.u64_in _ ⟨by omega, by omega⟩]; omega
    have ho : (FloatKind.f64.format.order a a != some Ordering.eq) = false := (ord_self a).trans hna
    rw [if_neg q, ea, h1, Option.bind_some, if_pos rfl, w, if_pos rfl]
    show (rate_Seconds.f ((1000 * m : Nat) : Int)).bind _ = _
    rw [hs, Option.bind_some, ho]
    exact ticks_j0 K hx hy
end Go.Proofs.YtpebcphkockkkaaDoor.Hand
