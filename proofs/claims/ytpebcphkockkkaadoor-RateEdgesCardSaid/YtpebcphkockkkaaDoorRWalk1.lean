/-
  The functions of rate and tikref1 that look at a float's bits, or reckon with floats, walked.
-/
import Derived.Test.YtpebcphkockkkaaDoorFlt2
import Derived.Test.YtpebcphkockkkaaDoorRate2
import Derived.Test.YtpebcphkockkkaaDoorPDx1
import Derived.Laws.Externs
import Derived.WalkLawsBesides
namespace Go.Proofs.YtpebcphkockkkaaDoor.Hand
open Go.RowKit Go.Proofs.YtpebcphkockkkaaDoorW.PrintWords Go.Proofs.YtpebcphkockkkaaDoorW.PrintLast Go.Proofs.YtpebcphkockkkaaDoorW.PrintMore Go.Proofs.YtpebcphkockkkaaDoor.PA Go.Proofs.YtpebcphkockkkaaDoor.PB Go.Proofs.YtpebcphkockkkaaDoor.PD
set_option linter.unusedSimpArgs false
set_option linter.unusedVariables false
set_option exponentiation.threshold 3000

theorem bits_run (b : Nat) (w : World) : (callFunc 35 #[.float .f64 b]).run Tryd.prog w = .ok (.value (.int .u64 (b : Int))) w := by
  rw [run_callFunc_extern Tryd.func35 (by kernel_rfl) (by kernel_rfl) (by kernel_rfl) (e := Extern.MathFloatBits.float64bits) (by kernel_rfl)]; rfl
theorem from_run (n : Int) (w : World) : (callFunc 34 #[.int .u64 n]).run Tryd.prog w = .ok (.value (.float .f64 n.toNat)) w := by
  rw [run_callFunc_extern Tryd.func34 (by kernel_rfl) (by kernel_rfl) (by kernel_rfl) (e := Extern.MathFloatBits.float64frombits) (by kernel_rfl)]; rfl
/-- The one NaN in place of all. -/
def canonV (b : Nat) : Nat := if nanB b = true then 9221120237041090560 else b
def math_Signbit.f (a0 : Nat) : Option Bool := if a0 < 18446744073709551616 then some (decide (9223372036854775808 ≤ a0)) else none
theorem sign_bit (b : Nat) (h : b < 18446744073709551616) : decide (wrap64 (b : Int) < 0) = decide (9223372036854775808 ≤ b) := by
  apply decide_eq_decide.2
  unfold wrap64
  omega
theorem math_Signbit.calls (a0 : Nat) (r : Bool) (w : World) (h : math_Signbit.f a0 = some r) :
    Calls Tryd.prog 46 #[.float .f64 a0] w fun e w' => e = .returned (.bool r) ∧ Below w.heap.size w w' := by
  unfold math_Signbit.f at h
  split at h
  case isFalse => cases h
  rename_i hb
  have hr := Option.some.inj h
  have hs := (sign_bit a0 hb).trans hr
  have hx := bits_run a0
  clear h hr
  go_enter Tryd.func46, Tryd.ntmps46
  go_wp2_with (simp only [hx])
  go_ret
  exact ⟨rfl, Below.refl _ _⟩
def rate_Bits.f (a0 : Nat) : Option Int := some (canonV a0 : Int)
theorem rate_Bits.calls (a0 : Nat) (r : Int) (w : World) (h : rate_Bits.f a0 = some r) :
    Calls Tryd.prog 17 #[.float .f64 a0] w fun e w' => e = .returned (.int .u64 r) ∧ Below w.heap.size w w' := by
  have hr := Option.some.inj h
  subst hr
  clear h
  have hx := bits_run a0
  have ho : (FloatKind.f64.format.order a0 a0 != some Ordering.eq) = nanB a0 := ord_self a0
  unfold canonV
  cases hn : nanB a0
  · rw [hn] at ho
    go_enter Tryd.func17, Tryd.ntmps17
    go_wp2_with (simp only [hx])
    go_ret
    exact ⟨rfl, Below.refl _ _⟩
  · rw [hn] at ho
    go_enter Tryd.func17, Tryd.ntmps17
    go_wp2_with (simp only [hx])
    go_ret
    exact ⟨rfl, Below.refl _ _⟩
theorem canon_lt {b : Nat} (h : b < 18446744073709551616) : canonV b < 18446744073709551616 := by unfold canonV; split <;> omega
def rate_From.f (a0 : Int) : Option Nat := if 0 ≤ a0 ∧ a0 < 18446744073709551616 then some (canonV a0.toNat) else none
theorem rate_From.calls (a0 : Int) (r : Nat) (w : World) (h : rate_From.f a0 = some r) :
    Calls Tryd.prog 13 #[.int .u64 a0] w fun e w' => e = .returned (.float .f64 r) ∧ Below w.heap.size w w' := by
  unfold rate_From.f at h
  split at h
  case isFalse => cases h
  have hr := Option.some.inj h
  subst hr
  have hx := from_run
  have HB := Aside0.mk (fun w => rate_Bits.calls a0.toNat _ w rfl)
  clear h
  go_enter Tryd.func13, Tryd.ntmps13
  go_wp2_with (first | simp only [hx] | fail)
  refine (HB.out _).mono ?_
  rintro en w1 ⟨rfl, hb1⟩
  go_wp2_with (simp only [hx])
  go_ret
  exact ⟨by simp, hb1⟩
def rate_asked.f (a0 : Nat) : Option Int := if a0 < 18446744073709551616 then some (if nanB a0 = true then 10 else if 9223372036854775808 ≤ a0 then 11 else 0) else none
theorem rate_asked.calls (a0 : Nat) (r : Int) (w : World) (h : rate_asked.f a0 = some r) :
    Calls Tryd.prog 31 #[.float .f64 a0] w fun e w' => e = .returned (.int .i64 r) ∧ Below w.heap.size w w' := by
  unfold rate_asked.f at h
  split at h
  case isFalse => cases h
  rename_i hb
  have hr := Option.some.inj h
  subst hr
  have ho : (FloatKind.f64.format.order a0 a0 != some Ordering.eq) = nanB a0 := ord_self a0
  clear h
  cases hn : nanB a0
  · rw [hn] at ho
    by_cases hs : 9223372036854775808 ≤ a0
    · have HS := Aside0.mk (fun w => math_Signbit.calls a0 true w (by unfold math_Signbit.f; rw [if_pos hb, decide_eq_true hs]))
      rw [if_neg (by simp), if_pos hs]
      clear hs hb hn
      go_enter Tryd.func31, Tryd.ntmps31
      go_wp2_with fail
      refine (HS.out _).mono ?_
      rintro en w1 ⟨rfl, hb1⟩
      go_wp2
      go_ret
      exact ⟨rfl, hb1⟩
    · have HS := Aside0.mk (fun w => math_Signbit.calls a0 false w (by unfold math_Signbit.f; rw [if_pos hb, decide_eq_false hs]))
      rw [if_neg (by simp), if_neg hs]
      clear hs hb hn
      go_enter Tryd.func31, Tryd.ntmps31
      go_wp2_with fail
      refine (HS.out _).mono ?_
      rintro en w1 ⟨rfl, hb1⟩
      go_wp2
      go_ret
      exact ⟨rfl, hb1⟩
  · rw [hn] at ho
    rw [if_pos rfl]
    clear hb hn
    go_enter Tryd.func31, Tryd.ntmps31
    go_wp2
    go_ret
    exact ⟨rfl, Below.refl _ _⟩

theorem isnan_eq {b : Nat} (h : b < 18446744073709551616) : decide (IntKind.u64.wrap ((b : Int) * 2) > 18437736874454810624) = nanB b := by
  unfold nanB
  apply decide_eq_decide.2
  have : IntKind.u64.wrap ((b : Int) * 2) = ((b : Int) * 2) % 18446744073709551616 := by simp [IntKind.wrap, IntKind.signed, IntKind.bits]
  rw [this]; omega
theorem nan_at {b : Nat} (h : b < 18446744073709551616) (w : World) : Calls Tryd.prog 36 #[.int .u64 (b : Int)] w fun e w' => e = .returned (.bool (nanB b)) ∧ Drawn0 w w' :=
  tikref1_isNaN.calls (b : Int) (nanB b) w (congrArg some (isnan_eq h))
def tikref1_Bits.f (a0 : Nat) : Option Int := if a0 < 18446744073709551616 then some (canonV a0 : Int) else none
theorem tikref1_Bits.calls (a0 : Nat) (r : Int) (w : World) (h : tikref1_Bits.f a0 = some r) :
    Calls Tryd.prog 18 #[.float .f64 a0] w fun e w' => e = .returned (.int .u64 r) ∧ Below w.heap.size w w' := by
  unfold tikref1_Bits.f at h
  split at h
  case isFalse => cases h
  rename_i hb
  have hr := Option.some.inj h
  subst hr
  have hx := bits_run a0
  have HI := Aside0.mk (nan_at hb)
  have HN := Aside0.mk (fun w => tikref1_nan.calls 9221120237041090560 w rfl)
  clear h hb
  unfold canonV
  cases hn : nanB a0
  · rw [hn] at HI
    go_enter Tryd.func18, Tryd.ntmps18
    go_wp2_with (first | simp only [hx] | fail)
    refine (HI.out _).mono ?_
    rintro en w1 ⟨rfl, ⟨n1, rfl⟩⟩
    go_wp2
    go_ret
    exact ⟨rfl, pw_below_drewN (Below.refl _ _) n1⟩
  · rw [hn] at HI
    go_enter Tryd.func18, Tryd.ntmps18
    go_wp2_with (first | simp only [hx] | fail)
    refine (HI.out _).mono ?_
    rintro en w1 ⟨rfl, ⟨n1, rfl⟩⟩
    go_wp2_with fail
    refine (HN.out _).mono ?_
    rintro en w2 ⟨rfl, ⟨n2, rfl⟩⟩
    go_wp2
    go_ret
    exact ⟨rfl, pw_below_drewN (Below.refl _ _) (n1 + n2)⟩
def tikref1_From.f (a0 : Int) : Option Nat := if 0 ≤ a0 ∧ a0 < 18446744073709551616 then some (canonV a0.toNat) else none
theorem tikref1_From.calls (a0 : Int) (r : Nat) (w : World) (h : tikref1_From.f a0 = some r) :
    Calls Tryd.prog 15 #[.int .u64 a0] w fun e w' => e = .returned (.float .f64 r) ∧ Below w.heap.size w w' := by
  unfold tikref1_From.f at h
  split at h
  case isFalse => cases h
  rename_i hb
  have hr := Option.some.inj h
  subst hr
  obtain ⟨b, rfl⟩ := Int.eq_ofNat_of_zero_le hb.1
  have hx := from_run
  have HI := Aside0.mk (nan_at (b := b) (by omega))
  have HN := Aside0.mk (fun w => tikref1_nan.calls 9221120237041090560 w rfl)
  clear h hb
  unfold canonV
  rw [Int.toNat_natCast]
  cases hn : nanB b
  · rw [hn] at HI
    go_enter Tryd.func15, Tryd.ntmps15
    go_wp2_with fail
    refine (HI.out _).mono ?_
    rintro en w1 ⟨rfl, ⟨n1, rfl⟩⟩
    go_wp2_with (simp only [hx])
    go_ret
    exact ⟨by simp, pw_below_drewN (Below.refl _ _) n1⟩
  · rw [hn] at HI
    go_enter Tryd.func15, Tryd.ntmps15
    go_wp2_with fail
    refine (HI.out _).mono ?_
    rintro en w1 ⟨rfl, ⟨n1, rfl⟩⟩
    go_wp2_with fail
    refine (HN.out _).mono ?_
    rintro en w2 ⟨rfl, ⟨n2, rfl⟩⟩
    go_wp2_with (simp only [hx])
    go_ret
    exact ⟨by simp, pw_below_drewN (Below.refl _ _) (n1 + n2)⟩
def rate_Seconds.f (a0 : Int) : Option Nat := dbl.div (floatOfInt .f64 a0) 4652007308841189376
theorem rate_Seconds.calls (a0 : Int) (r : Nat) (w : World) (h : rate_Seconds.f a0 = some r) :
    Calls Tryd.prog 29 #[.int .u64 a0] w fun e w' => e = .returned (.float .f64 r) ∧ Below w.heap.size w w' := by
  have hq : ∀ w : World, (binOp .quo 23 (.float .f64 (floatOfInt .f64 a0)) (.float .f64 4652007308841189376)).run Tryd.prog w = .ok (.float .f64 r) w := fun w => run_float_arith w .quo _ .f64 _ _ r h
  clear h
  go_enter Tryd.func29, Tryd.ntmps29
  go_wp2_with (simp only [hq])
  go_ret
  exact ⟨rfl, Below.refl _ _⟩
theorem tikref1_Seconds.calls (a0 : Int) (r : Nat) (w : World) (h : rate_Seconds.f a0 = some r) :
    Calls Tryd.prog 30 #[.int .u64 a0] w fun e w' => e = .returned (.float .f64 r) ∧ Below w.heap.size w w' := by
  have hq : ∀ w : World, (binOp .quo 23 (.float .f64 (floatOfInt .f64 a0)) (.float .f64 4652007308841189376)).run Tryd.prog w = .ok (.float .f64 r) w := fun w => run_float_arith w .quo _ .f64 _ _ r h
  clear h
  go_enter Tryd.func30, Tryd.ntmps30
  go_wp2_with (simp only [hq])
  go_ret
  exact ⟨rfl, Below.refl _ _⟩
theorem ticks_nums {b : Nat} (h1 : nanB b = false) (h2 : b < 9223372036854775808) :
    (∀ w : World, (binOp .mul 23 (.float .f64 b) (.float .f64 4652007308841189376)).run Tryd.prog w = .ok (.float .f64 (p1000 b)) w) ∧
    (FloatKind.f64.format.order (p1000 b) 4845873199050653696 == some Ordering.gt) = decide (4845873199050653696 < p1000 b) := by
  obtain ⟨e, hp⟩ := p1000_some (nan_pos h1 h2)
  exact ⟨fun w => run_float_arith w .mul _ .f64 _ _ _ e, ord_gt hp (by decide)⟩
theorem conv_run {p : Nat} {n : Int} (h : floatToIntVal .f64 p .u64 = some n) (w : World) : (convert 23 22 (.float .f64 p)).run Tryd.prog w = .ok (.int .u64 n) w :=
  run_convert_float_int w _ _ .f64 .u64 p n (by kernel_rfl) (by kernel_rfl) h
def rate_Ticks.f (a0 : Nat) : Option (Int × Int) := if a0 < 18446744073709551616 then some (ticksV a0) else none
theorem rate_Ticks.calls (a0 : Nat) (r1 r2 : Int) (w : World) (h : rate_Ticks.f a0 = some (r1, r2)) :
    Calls Tryd.prog 27 #[.float .f64 a0] w fun e w' => e = .returned (.tuple #[.int .u64 r1, .int .i64 r2]) ∧ Below w.heap.size w w' := by
  unfold rate_Ticks.f at h
  split at h
  case isFalse => cases h
  rename_i hb
  have hr := Option.some.inj h
  clear h
  have HA := fun (r : Int) (h : (if nanB a0 = true then (10 : Int) else if 9223372036854775808 ≤ a0 then 11 else 0) = r) => (fun w => rate_asked.calls a0 r w (by unfold rate_asked.f; rw [if_pos hb, h]))
  unfold ticksV at hr
  by_cases hn : nanB a0 = true
  · rw [if_pos hn] at hr HA
    obtain ⟨rfl, rfl⟩ : (0 : Int) = r1 ∧ (10 : Int) = r2 := by simpa using hr
    have HS := Aside0.mk (HA 10 rfl)
    clear HA hr hb hn
    go_enter Tryd.func27, Tryd.ntmps27
    go_wp2_with fail
    refine (HS.out _).mono ?_
    rintro en w1 ⟨rfl, hb1⟩
    go_wp2
    go_ret2
    exact ⟨rfl, hb1⟩
  · rw [if_neg hn] at hr HA
    by_cases hs : 9223372036854775808 ≤ a0
    · rw [if_pos hs] at hr HA
      obtain ⟨rfl, rfl⟩ : (0 : Int) = r1 ∧ (11 : Int) = r2 := by simpa using hr
      have HS := Aside0.mk (HA 11 rfl)
      clear HA hr hb hn hs
      go_enter Tryd.func27, Tryd.ntmps27
      go_wp2_with fail
      refine (HS.out _).mono ?_
      rintro en w1 ⟨rfl, hb1⟩
      go_wp2
      go_ret2
      exact ⟨rfl, hb1⟩
    · rw [if_neg hs] at hr HA
      have HS := Aside0.mk (HA 0 rfl)
      obtain ⟨hq, ho⟩ := ticks_nums (b := a0) (by simpa using hn) (by omega)
      clear HA hb hn hs
      by_cases hg : 4845873199050653696 < p1000 a0
      · rw [if_pos hg] at hr
        obtain ⟨rfl, rfl⟩ : (0 : Int) = r1 ∧ (1 : Int) = r2 := by simpa using hr
        rw [decide_eq_true hg] at ho
        generalize p1000 a0 = p at *
        clear hr hg
        go_enter Tryd.func27, Tryd.ntmps27
        go_wp2_with fail
        refine (HS.out _).mono ?_
        rintro en w1 ⟨rfl, hb1⟩
        go_wp2_with (simp only [hq])
        go_ret2
        exact ⟨rfl, hb1⟩
      · rw [if_neg hg] at hr
        rw [decide_eq_false hg] at ho
        obtain ⟨hc, _⟩ := whole53 (p := p1000 a0) (by omega)
        have hv := conv_run hc
        obtain ⟨h1, rfl⟩ : ((vl (p1000 a0) / 2 ^ 1074 : Nat) : Int) = r1 ∧ (0 : Int) = r2 := by
          have := Prod.mk.inj hr
          exact this
        rw [h1] at hv
        generalize p1000 a0 = p at *
        clear hr hg hc h1
        go_enter Tryd.func27, Tryd.ntmps27
        go_wp2_with fail
        refine (HS.out _).mono ?_
        rintro en w1 ⟨rfl, hb1⟩
        go_wp2_with (first | simp only [hq] | simp only [hv])
        go_ret2
        exact ⟨rfl, hb1⟩
theorem sign_shr (b : Nat) (h : b < 18446744073709551616) : ((b : Int) / 9223372036854775808 == 1) = decide (9223372036854775808 ≤ b) := by
  by_cases q : 9223372036854775808 ≤ b
  · rw [decide_eq_true q, show (b : Int) / 9223372036854775808 = 1 by omega]; rfl
  · rw [decide_eq_false q, show (b : Int) / 9223372036854775808 = 0 by omega]; rfl
theorem tikref1_Ticks.calls (a0 : Nat) (r1 r2 : Int) (w : World) (h : rate_Ticks.f a0 = some (r1, r2)) :
    Calls Tryd.prog 28 #[.float .f64 a0] w fun e w' => e = .returned (.tuple #[.int .u64 r1, .int .i64 r2]) ∧ Below w.heap.size w w' := by
  unfold rate_Ticks.f at h
  split at h
  case isFalse => cases h
  rename_i hb
  have hr := Option.some.inj h
  clear h
  have hx := bits_run a0
  have HI := Aside0.mk (nan_at hb)
  have hsg := sign_shr a0 hb
  unfold ticksV at hr
  by_cases hn : nanB a0 = true
  · rw [if_pos hn] at hr
    rw [hn] at HI
    obtain ⟨rfl, rfl⟩ : (0 : Int) = r1 ∧ (10 : Int) = r2 := by simpa using hr
    clear hr hb hn hsg
    go_enter Tryd.func28, Tryd.ntmps28
    go_wp2_with (first | simp only [hx] | fail)
    refine (HI.out _).mono ?_
    rintro en w1 ⟨rfl, ⟨n1, rfl⟩⟩
    go_wp2
    go_ret2
    exact ⟨rfl, pw_below_drewN (Below.refl _ _) n1⟩
  · rw [if_neg hn] at hr
    rw [show nanB a0 = false by simpa using hn] at HI
    by_cases hs : 9223372036854775808 ≤ a0
    · rw [if_pos hs] at hr
      rw [decide_eq_true hs] at hsg
      obtain ⟨rfl, rfl⟩ : (0 : Int) = r1 ∧ (11 : Int) = r2 := by simpa using hr
      clear hr hb hn hs
      go_enter Tryd.func28, Tryd.ntmps28
      go_wp2_with (first | simp only [hx] | fail)
      refine (HI.out _).mono ?_
      rintro en w1 ⟨rfl, ⟨n1, rfl⟩⟩
      go_wp2
      go_ret2
      exact ⟨rfl, pw_below_drewN (Below.refl _ _) n1⟩
    · rw [if_neg hs] at hr
      rw [decide_eq_false hs] at hsg
      obtain ⟨hq, ho⟩ := ticks_nums (b := a0) (by simpa using hn) (by omega)
      clear hb hn hs
      by_cases hg : 4845873199050653696 < p1000 a0
      · rw [if_pos hg] at hr
        obtain ⟨rfl, rfl⟩ : (0 : Int) = r1 ∧ (1 : Int) = r2 := by simpa using hr
        rw [decide_eq_true hg] at ho
        generalize p1000 a0 = p at *
        clear hr hg
        go_enter Tryd.func28, Tryd.ntmps28
        go_wp2_with (first | simp only [hx] | fail)
        refine (HI.out _).mono ?_
        rintro en w1 ⟨rfl, ⟨n1, rfl⟩⟩
        go_wp2_with (simp only [hq])
        go_ret2
        exact ⟨rfl, pw_below_drewN (Below.refl _ _) n1⟩
      · rw [if_neg hg] at hr
        rw [decide_eq_false hg] at ho
        obtain ⟨hc, _⟩ := whole53 (p := p1000 a0) (by omega)
        have hv := conv_run hc
        obtain ⟨h1, rfl⟩ : ((vl (p1000 a0) / 2 ^ 1074 : Nat) : Int) = r1 ∧ (0 : Int) = r2 := by
          have := Prod.mk.inj hr
          exact this
        rw [h1] at hv
        generalize p1000 a0 = p at *
        clear hr hg hc h1
        go_enter Tryd.func28, Tryd.ntmps28
        go_wp2_with (first | simp only [hx] | fail)
        refine (HI.out _).mono ?_
        rintro en w1 ⟨rfl, ⟨n1, rfl⟩⟩
        go_wp2_with (first | simp only [hq] | simp only [hv])
        go_ret2
        exact ⟨rfl, pw_below_drewN (Below.refl _ _) n1⟩
/-- A fraction's float. -/
def rate_Speed_Float.f (n d : Int) : Option Nat := (rate_May.f n d).bind fun b => if b = true then dbl.div (floatOfInt .f64 n) (floatOfInt .f64 d) else some 0
theorem rate_Speed_Float.calls (n d : Int) (r : Nat) (w : World) (h : rate_Speed_Float.f n d = some r) :
    Calls Tryd.prog 25 #[.agg #[.int .u64 n, .int .u64 d]] w fun e w' => e = .returned (.float .f64 r) ∧ Below w.heap.size w w' := by
  unfold rate_Speed_Float.f at h
  obtain ⟨b, hM, h⟩ := Option.bind_eq_some_iff.mp h
  obtain ⟨W, hW, b0, hWb⟩ := one_new w (.cells #[.int .u64 n, .int .u64 d] 26)
  have HW := Aside0.mk hW
  have HWb := Aside0.mk hWb
  have B0 := Aside0.mk b0
  have HM := Aside0.mk (fun w => rate_May.calls n d b w hM)
  clear hW hWb b0 hM
  cases b
  · obtain rfl : 0 = r := Option.some.inj ((if_neg (by simp)).symm.trans h)
    clear h
    have c0 := (blk_cell B0.out 0).trans (show _ = some (Value.int .u64 n) from rfl)
    have c1 := (blk_cell B0.out 1).trans (show _ = some (Value.int .u64 d) from rfl)
    go_enter Tryd.func25, Tryd.ntmps25
    go_wp2_with fail
    rw [HW.out]
    go_wp2_with fail
    refine (HM.out _).mono ?_
    rintro en w1 ⟨rfl, hb1⟩
    go_wp2
    go_ret
    exact ⟨rfl, Below.trans HWb.out (below_mono HWb.out hb1)⟩
  · have hq : ∀ w : World, (binOp .quo 23 (.float .f64 (floatOfInt .f64 n)) (.float .f64 (floatOfInt .f64 d))).run Tryd.prog w = .ok (.float .f64 r) w := fun w => run_float_arith w .quo _ .f64 _ _ r ((if_pos rfl).symm.trans h)
    clear h
    have c0 := (blk_cell B0.out 0).trans (show _ = some (Value.int .u64 n) from rfl)
    have c1 := (blk_cell B0.out 1).trans (show _ = some (Value.int .u64 d) from rfl)
    go_enter Tryd.func25, Tryd.ntmps25
    go_wp2_with fail
    rw [HW.out]
    go_wp2_with fail
    refine (HM.out _).mono ?_
    rintro en w1 ⟨rfl, hb1⟩
    have b1 := blk_old B0.out hb1
    clear c0 c1
    have c0 := (blk_cell b1 0).trans (show _ = some (Value.int .u64 n) from rfl)
    have c1 := (blk_cell b1 1).trans (show _ = some (Value.int .u64 d) from rfl)
    go_wp2_with (simp only [hq])
    go_ret
    exact ⟨rfl, Below.trans HWb.out (below_mono HWb.out hb1)⟩
end Go.Proofs.YtpebcphkockkkaaDoor.Hand
