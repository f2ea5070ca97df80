/-
  RateStands, RateScales, RateSeconds: the plain laws. No program.
-/
import Derived.Test.YtpebcphkockkkaaDoorPFx3
import Derived.Test.YtpebcphkockkkaaDoorPFx4
namespace Go.Proofs.YtpebcphkockkkaaDoor.Hand
open Go.RowKit Go.Proofs.YtpebcphkockkkaaDoorW.PrintWords Go.Proofs.YtpebcphkockkkaaDoorW.PrintLast Go.Proofs.YtpebcphkockkkaaDoorW.PrintMore Go.Proofs.YtpebcphkockkkaaDoor.PA Go.Proofs.YtpebcphkockkkaaDoor.PB Go.Proofs.YtpebcphkockkkaaDoor.PD Go.Proofs.YtpebcphkockkkaaDoor.PE Go.Proofs.YtpebcphkockkkaaDoor.PF
set_option linter.unusedSimpArgs false
set_option linter.unusedVariables false
set_option exponentiation.threshold 3000

theorem rfirst_true : tiklaw1_first.f = some true := by decide +kernel
theorem sp01 : Sp 0 1 := ⟨by decide +kernel, by omega, by omega, by omega, by omega⟩
theorem sp11 : Sp 1 1 := ⟨by decide +kernel, by omega, by omega, by omega, by omega⟩
theorem small_scale {t n d : Int} (hd : 1 ≤ d) (hn : n ≤ 1024 * d) (n0 : 0 ≤ n) (t0 : 0 ≤ t) (t1 : t ≤ 4398046511104) : 0 ≤ t * n / d ∧ t * n / d ≤ 4503599627370496 := by
  have h1 : t * n ≤ t * (1024 * d) := Int.mul_le_mul_of_nonneg_left hn t0
  have h2 : t * (1024 * d) = t * 1024 * d := by rw [Int.mul_assoc]
  refine ⟨Int.ediv_nonneg (Int.mul_nonneg t0 n0) (by omega), ?_⟩
  have h3 : t * n / d ≤ t * 1024 := by
    apply Int.ediv_le_of_le_mul (by omega)
    omega
  omega
theorem scaleV_small {t r n d : Int} (h : (t * n + r) / d ≤ 4611686018427387904) : scaleV t r n d = ((t * n + r) / d, (t * n + r) % d, 0) := if_neg (by omega)
theorem stands_jt (K : Nat) (x y z : Int) : tiklaw1_RateStands.j0 (K + 1) x true y z = some true := by
  rw [tiklaw1_RateStands.j0, rfirst_true]; rfl
theorem stands_j0 (K : Nat) {t n d : Int} (S : Sp n d) (t0 : 0 ≤ t) (t1 : t ≤ 1099511627776) : tiklaw1_RateStands.j0 (K + 1) t false n d = some true := by
  obtain ⟨k, hk, e, hn2⟩ := may_pow S.may (by have := S.d1; omega)
  clear e hk k
  have hd := S.d1
  have hd2 := S.d2
  have hn := S.n0
  have hn1 := S.n1
  have w2 : IntKind.u64.wrap (2 * t) = 2 * t := IntWalk.u64_in _ ⟨by omega, by omega⟩
  have f1 := scale_f (t := t) (r := 0) sp01 ⟨t0, by clear w2; omega⟩ (by omega) (by omega)
  have f2 := scale_f (t := t) (r := 0) sp11 ⟨t0, by clear w2; omega⟩ (by omega) (by omega)
  have f3 := scale_f (t := t) (r := 0) S ⟨t0, by clear w2; omega⟩ (by omega) (by clear w2; omega)
  have f4 := scale_f (t := 2 * t) (r := 0) S ⟨by clear w2; omega, by clear w2; omega⟩ (by omega) (by clear w2; omega)
  have b1 := small_scale hd hn2 hn t0 (by clear w2; omega)
  have b2 := small_scale (t := 2 * t) hd hn2 hn (by clear w2; omega) (by clear w2; omega)
  have g1 : scaleV t 0 0 1 = (0, 0, 0) := by unfold scaleV; simp
  have g2 : scaleV t 0 1 1 = (t, 0, 0) := by
    unfold scaleV
    rw [Int.mul_one, Int.add_zero, Int.ediv_one, if_neg (by clear w2; omega)]; simp
  have g3 : scaleV t 0 n d = (t * n / d, t * n % d, 0) := by
    have := scaleV_small (t := t) (r := 0) (n := n) (d := d) (by rw [Int.add_zero]; clear w2; omega)
    rw [Int.add_zero] at this; exact this
  have g4 : scaleV (2 * t) 0 n d = (2 * t * n / d, 2 * t * n % d, 0) := by
    have := scaleV_small (t := 2 * t) (r := 0) (n := n) (d := d) (by rw [Int.add_zero]; clear w2; omega)
    rw [Int.add_zero] at this; exact this
  have e2 : 2 * t * n = 2 * (t * n) := by rw [Int.mul_assoc]
  rw [e2] at b2 g4
  have hM : 0 ≤ t * n := Int.mul_nonneg t0 hn
  generalize t * n = M at *
  have q1 : 2 * (M / d) ≤ 2 * M / d := by
    rw [Int.le_ediv_iff_mul_le (by omega)]
    have := Int.ediv_mul_le M (show d ≠ 0 by omega)
    rw [Int.mul_assoc]; omega
  have q2 : 2 * M / d ≤ 2 * (M / d) + 1 := by
    have h1 : 2 * M / d < 2 * (M / d) + 2 := by
      rw [Int.ediv_lt_iff_lt_mul (by omega)]
      have := Int.lt_ediv_add_one_mul_self M (show 0 < d by omega)
      have e : (2 * (M / d) + 2) * d = 2 * ((M / d + 1) * d) := by rw [← Int.mul_assoc]; congr 1; omega
      rw [e]; omega
    omega
  rw [tiklaw1_RateStands.j0, if_neg (by simp), f1, Option.bind_some, f2, Option.bind_some, f3, Option.bind_some, w2, f4, Option.bind_some, rfirst_true, Option.bind_some, if_pos rfl, g1, g2, g3, g4]
  clear f1 f2 f3 f4 g1 g2 g3 g4 w2
  generalize M / d = g at *
  generalize 2 * M / d = i at *
  have w5 : IntKind.u64.wrap (2 * g) = 2 * g := IntWalk.u64_in _ ⟨by omega, by omega⟩
  have w6 : IntKind.u64.wrap (2 * g + 1) = 2 * g + 1 := IntWalk.u64_in _ ⟨by clear w5; omega, by clear w5; omega⟩
  rw [w5, w6]
  clear w5 w6
  refine (if_pos rfl).trans ((if_pos rfl).trans ((if_pos rfl).trans ((if_pos rfl).trans ((if_pos rfl).trans ((if_pos rfl).trans ((if_pos rfl).trans ((if_pos rfl).trans ((if_pos q1).trans ?_))))))))
  show some (decide (i ≤ 2 * g + 1)) = some true
  rw [decide_eq_true q2]
theorem stands_any (K : Nat) {t n d : Int} (hn : U64 n) (hd : U64 d) (t0 : 0 ≤ t) : tiklaw1_RateStands.f (K + 1) t n d = some true := by
  unfold tiklaw1_RateStands.f
  rw [rfirst_true, Option.bind_some, if_pos rfl]
  by_cases q : t > 1099511627776
  · rw [if_pos q]; exact stands_jt K _ _ _
  · rw [if_neg q]
    cases hM : rate_May.f n d with
    | none => exact absurd hM (may_some n d)
    | some b =>
      rw [Option.bind_some]
      cases b
      · exact stands_jt K _ _ _
      · exact stands_j0 K (sp_of hM hn.1 hd.1) t0 (by omega)

theorem may_any (n d : Int) : ∃ b, rate_May.f n d = some b := by
  cases hM : rate_May.f n d with
  | none => exact absurd hM (may_some n d)
  | some b => exact ⟨b, rfl⟩
theorem scale_both (K : Nat) {t r n d : Int} (ht : U64 t) (hr : U64 r) (hn : U64 n) (hd : U64 d) : ∃ x, rate_Scale.f t r n d = some x ∧ tikref1_Scale.f (K + 30) t r n d = some x := by
  obtain ⟨b, hM⟩ := may_any n d
  have hm := (ref_may n d hn hd).trans hM
  have e1 : rate_Scale.f t r n d = some (if b = true ∧ r < d then scaleV t r n d else (0, 0, 1)) := by
    unfold rate_Scale.f
    rw [if_pos ⟨ht, hr, hn, hd⟩, hM, Option.bind_some]
  cases b with
  | false =>
    refine ⟨(0, 0, 1), ?_, ?_⟩
    · rw [e1, if_neg (fun h => by cases h.1)]
    · unfold tikref1_Scale.f
      rw [hm, Option.bind_some, if_neg (show ¬ (false = true) by decide), show K + 30 = (K + 29) + 1 from rfl, tikref1_Scale.j0, if_pos rfl]
  | true =>
    by_cases q : r < d
    · have S := sp_of hM hn.1 hd.1
      refine ⟨scaleV t r n d, ?_, ref_scale S ht hr.1 q K⟩
      rw [e1, if_pos ⟨rfl, q⟩]
    · refine ⟨(0, 0, 1), ?_, ?_⟩
      · rw [e1, if_neg (fun h => q h.2)]
      · unfold tikref1_Scale.f
        rw [hm, Option.bind_some, if_pos rfl, decide_eq_true (show r ≥ d by omega), show K + 30 = (K + 29) + 1 from rfl, tikref1_Scale.j0, if_pos rfl]
theorem dbl_w {x y r : Nat} (h : dbl.div x y = some r) : r < 18446744073709551616 := by
  have := dbl.div_lt h
  have e : 2 ^ dbl.width = 18446744073709551616 := by decide +kernel
  omega
/-- A fraction has a float, the same in both. -/
theorem float_both {n d : Int} (hn : U64 n) (hd : U64 d) : ∃ r, rate_Speed_Float.f n d = some r ∧ tikref1_Float.f n d = some r ∧ r < 18446744073709551616 := by
  obtain ⟨b, hM⟩ := may_any n d
  have hm := (ref_may n d hn hd).trans hM
  unfold rate_Speed_Float.f tikref1_Float.f
  rw [hM, hm, Option.bind_some]
  cases b with
  | false => exact ⟨0, if_neg (by simp), if_neg (by simp), by omega⟩
  | true =>
    obtain ⟨k, hk, rfl, hn2⟩ := may_pow hM hd.1
    have p := pow_20 k hk
    have : ∃ r, dbl.div (floatOfInt .f64 n) (floatOfInt .f64 (2 ^ k)) = some r := by
      obtain ⟨m, rfl⟩ := Int.eq_ofNat_of_zero_le hn.1
      by_cases h0 : m = 0
      · subst h0; exact ⟨0, div_zero_pow ⟨k, by omega⟩⟩
      · obtain ⟨w, hw, _⟩ := div_pow hk h0 (by omega)
        exact ⟨w, hw⟩
    obtain ⟨r, h⟩ := this
    exact ⟨r, (if_pos rfl).trans h, (if_pos rfl).trans h, dbl_w h⟩
theorem scales_any (K : Nat) {t r n d : Int} (ht : U64 t) (hr : U64 r) (hn : U64 n) (hd : U64 d) : tiklaw1_RateScales.f (K + 30) t r n d = some true := by
  obtain ⟨⟨x1, x2, x3⟩, e1, e2⟩ := scale_both K ht hr hn hd
  obtain ⟨b, hM⟩ := may_any n d
  have hm := (ref_may n d hn hd).trans hM
  obtain ⟨f, f1, f2, f3⟩ := float_both hn hd
  unfold tiklaw1_RateScales.f tiklaw1_plain.f rate_Bits.f tikref1_Bits.f
  rw [rfirst_true, Option.bind_some, if_pos rfl, e1, Option.bind_some, Option.bind_some]
  show (tikref1_Scale.f (K + 30) t r n d).bind _ = _
  rw [e2, Option.bind_some, Option.bind_some, if_pos rfl]
  refine (if_pos rfl).trans ((if_pos rfl).trans ((if_pos rfl).trans ?_))
  rw [hM, Option.bind_some, Option.bind_some]
  show (tikref1_May.f n d).bind _ = _
  rw [hm, Option.bind_some, if_pos (by simp), f1, Option.bind_some, Option.bind_some, Option.bind_some]
  show (tikref1_Float.f n d).bind _ = _
  rw [f2, Option.bind_some, if_pos f3, Option.bind_some]
  simp
theorem seconds_some (t : Int) : ∃ r, rate_Seconds.f t = some r ∧ r < 18446744073709551616 := by
  obtain ⟨r, h, _⟩ := div_some (x := floatOfInt .f64 t) nearest_num read1000 (by decide)
  exact ⟨r, h, dbl_w h⟩
theorem secs_any {t : Int} {x : Nat} (hx : x < 18446744073709551616) : tiklaw1_RateSeconds.f t x = some true := by
  obtain ⟨r, e, hr⟩ := seconds_some t
  have ht : rate_Ticks.f x = some (ticksV x) := if_pos hx
  unfold tiklaw1_RateSeconds.f tikref1_Seconds.f tikref1_Ticks.f rate_Bits.f tikref1_Bits.f
  rw [rfirst_true, Option.bind_some, if_pos rfl, ht, Option.bind_some, Option.bind_some, Option.bind_some, if_pos rfl, e, Option.bind_some, Option.bind_some, Option.bind_some, if_pos hr, Option.bind_some]
  refine (if_pos rfl).trans ((if_pos rfl).trans ?_)
  simp
theorem f64_lt {b : Nat} (h : (Lit.float .f64 b).wf = true) : b < 18446744073709551616 := by
  have := h
  simp only [Lit.wf, decide_eq_true_eq] at this
  omega
end Go.Proofs.YtpebcphkockkkaaDoor.Hand
