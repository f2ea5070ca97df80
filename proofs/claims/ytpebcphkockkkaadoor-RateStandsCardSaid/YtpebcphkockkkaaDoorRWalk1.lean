/-
  The functions of rate and tikref1 that look at a float's bits, walked.
-/
import Derived.Test.YtpebcphkockkkaaDoorFlt6
import Derived.Test.YtpebcphkockkkaaDoorPAx1
import Derived.Laws.Externs
import Derived.WalkLawsBesides
namespace Go.Proofs.YtpebcphkockkkaaDoor.Hand
open Go.RowKit Go.Proofs.YtpebcphkockkkaaDoorW.PrintWords Go.Proofs.YtpebcphkockkkaaDoorW.PrintLast Go.Proofs.YtpebcphkockkkaaDoorW.PrintMore

theorem bits_run (b : Nat) (w : World) : (callFunc 35 #[.float .f64 b]).run Tryd.prog w = .ok (.value (.int .u64 (b : Int))) w := by
  rw [run_callFunc_extern Tryd.func35 (by kernel_rfl) (by kernel_rfl) (by kernel_rfl) (e := Extern.MathFloatBits.float64bits) (by kernel_rfl)]; rfl
theorem from_run (n : Int) (w : World) : (callFunc 34 #[.int .u64 n]).run Tryd.prog w = .ok (.value (.float .f64 n.toNat)) w := by
  rw [run_callFunc_extern Tryd.func34 (by kernel_rfl) (by kernel_rfl) (by kernel_rfl) (e := Extern.MathFloatBits.float64frombits) (by kernel_rfl)]; rfl
/-- The one NaN in place of all. -/
def canonV (b : Nat) : Nat := if nanB b = true then 9221120237041090560 else b
def math_Signbit.f (a0 : Nat) : Option Bool := if a0 < 18446744073709551616 then some (decide (9223372036854775808 ≤ a0)) else none
theorem sign_bit (b : Nat) (h : b < 18446744073709551616) : decide (wrap64 (b : Int) < 0) = decide (9223372036854775808 ≤ b) := by
  apply decide_eq_decide.2
  unfold wrap64
  omega
theorem math_Signbit.calls (a0 : Nat) (r : Bool) (w : World) (h : math_Signbit.f a0 = some r) :
    Calls Tryd.prog 46 #[.float .f64 a0] w fun e w' => e = .returned (.bool r) ∧ Below w.heap.size w w' := by
  unfold math_Signbit.f at h
  split at h
  case isFalse => cases h
  rename_i hb
  have hr := Option.some.inj h
  have hs := (sign_bit a0 hb).trans hr
  have hx := bits_run a0
  clear h hr
  go_enter Tryd.func46, Tryd.ntmps46
  go_wp2_with (simp only [hx])
  go_ret
  exact ⟨rfl, Below.refl _ _⟩
def rate_Bits.f (a0 : Nat) : Option Int := some (canonV a0 : Int)
theorem rate_Bits.calls (a0 : Nat) (r : Int) (w : World) (h : rate_Bits.f a0 = some r) :
    Calls Tryd.prog 17 #[.float .f64 a0] w fun e w' => e = .returned (.int .u64 r) ∧ Below w.heap.size w w' := by
  have hr := Option.some.inj h
  subst hr
  clear h
  have hx := bits_run a0
  have ho : (FloatKind.f64.format.order a0 a0 != some Ordering.eq) = nanB a0 := ord_self a0
  unfold canonV
  cases hn : nanB a0
  · rw [hn] at ho
    go_enter Tryd.func17, Tryd.ntmps17
    go_wp2_with (simp only [hx])
    go_ret
    exact ⟨rfl, Below.refl _ _⟩
  · rw [hn] at ho
    go_enter Tryd.func17, Tryd.ntmps17
    go_wp2_with (simp only [hx])
    go_ret
    exact ⟨rfl, Below.refl _ _⟩
theorem canon_lt {b : Nat} (h : b < 18446744073709551616) : canonV b < 18446744073709551616 := by unfold canonV; split <;> omega
def rate_From.f (a0 : Int) : Option Nat := if 0 ≤ a0 ∧ a0 < 18446744073709551616 then some (canonV a0.toNat) else none
theorem rate_From.calls (a0 : Int) (r : Nat) (w : World) (h : rate_From.f a0 = some r) :
    Calls Tryd.prog 13 #[.int .u64 a0] w fun e w' => e = .returned (.float .f64 r) ∧ Below w.heap.size w w' := by
  unfold rate_From.f at h
  split at h
  case isFalse => cases h
  have hr := Option.some.inj h
  subst hr
  have hx := from_run
  have HB := Aside0.mk (fun w => rate_Bits.calls a0.toNat _ w rfl)
  clear h
  go_enter Tryd.func13, Tryd.ntmps13
  go_wp2_with (first | simp only [hx] | fail)
  refine (HB.out _).mono ?_
  rintro en w1 ⟨rfl, hb1⟩
  go_wp2_with (simp only [hx])
  go_ret
  exact ⟨by simp, hb1⟩
def rate_asked.f (a0 : Nat) : Option Int := if a0 < 18446744073709551616 then some (if nanB a0 = true then 10 else if 9223372036854775808 ≤ a0 then 11 else 0) else none
theorem rate_asked.calls (a0 : Nat) (r : Int) (w : World) (h : rate_asked.f a0 = some r) :
    Calls Tryd.prog 31 #[.float .f64 a0] w fun e w' => e = .returned (.int .i64 r) ∧ Below w.heap.size w w' := by
  unfold rate_asked.f at h
  split at h
  case isFalse => cases h
  rename_i hb
  have hr := Option.some.inj h
  subst hr
  have ho : (FloatKind.f64.format.order a0 a0 != some Ordering.eq) = nanB a0 := ord_self a0
  clear h
  cases hn : nanB a0
  · rw [hn] at ho
    by_cases hs : 9223372036854775808 ≤ a0
    · have HS := Aside0.mk (fun w => math_Signbit.calls a0 true w (by unfold math_Signbit.f; rw [if_pos hb, decide_eq_true hs]))
      rw [if_neg (by simp), if_pos hs]
      clear hs hb hn
      go_enter Tryd.func31, Tryd.ntmps31
      go_wp2_with fail
      refine (HS.out _).mono ?_
      rintro en w1 ⟨rfl, hb1⟩
      go_wp2
      go_ret
      exact ⟨rfl, hb1⟩
    · have HS := Aside0.mk (fun w => math_Signbit.calls a0 false w (by unfold math_Signbit.f; rw [if_pos hb, decide_eq_false hs]))
      rw [if_neg (by simp), if_neg hs]
      clear hs hb hn
      go_enter Tryd.func31, Tryd.ntmps31
      go_wp2_with fail
      refine (HS.out _).mono ?_
      rintro en w1 ⟨rfl, hb1⟩
      go_wp2
      go_ret
      exact ⟨rfl, hb1⟩
  · rw [hn] at ho
    rw [if_pos rfl]
    clear hb hn
    go_enter Tryd.func31, Tryd.ntmps31
    go_wp2
    go_ret
    exact ⟨rfl, Below.refl _ _⟩
end Go.Proofs.YtpebcphkockkkaaDoor.Hand
