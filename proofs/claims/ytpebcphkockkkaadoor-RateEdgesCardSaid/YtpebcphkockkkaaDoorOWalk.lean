/-
  A float's sign turned, and a difference of floats, as the walk meets them.
-/
import Derived.Test.YtpebcphkockkkaaDoorRWalk1
namespace Go.Proofs.YtpebcphkockkkaaDoor.Hand
open Go.RowKit
set_option linter.unusedSimpArgs false
set_option linter.unusedVariables false
set_option exponentiation.threshold 3000

theorem neg_run (b : Nat) (w : World) : (Op.unary .neg (.float .f64 b)).run Tryd.prog w = .ok (.float .f64 (Op.negFloat .f64 b)) w := rfl
theorem sub_run {a b : Nat} (h : (FloatKind.f64.format.sub a b).isSome = true) (w : World) : (binOp .sub 23 (.float .f64 a) (.float .f64 b)).run Tryd.prog w = .ok (.float .f64 ((FloatKind.f64.format.sub a b).getD 0)) w := by
  obtain ⟨r, hr⟩ := Option.isSome_iff_exists.1 h
  have := run_float_arith (P := Tryd.prog) w .sub 23 .f64 a b r hr
  rw [this, hr]; rfl
theorem sub_runT {a b : Nat} (h : ((FloatKind.f64.format.sub a b).isSome = true) = True) (w : World) : (binOp .sub 23 (.float .f64 a) (.float .f64 b)).run Tryd.prog w = .ok (.float .f64 ((FloatKind.f64.format.sub a b).getD 0)) w := sub_run (of_eq_true h) w
end Go.Proofs.YtpebcphkockkkaaDoor.Hand
