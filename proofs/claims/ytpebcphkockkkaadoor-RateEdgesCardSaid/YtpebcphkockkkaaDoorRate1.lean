/-
  math/bits.LeadingZeros64, off the shelf; math/bits.Add64, which the model stands in for.
-/
import Derived.Test.YtpebcphkockkkaaDoorPAx1
import Derived.Shelf.Small.Bits
import Derived.Shelf.Lays
import Derived.Laws.Externs
import Derived.Lib.BitFns
namespace Go.Proofs.YtpebcphkockkkaaDoor.Hand
open Go.RowKit Go.Proofs.YtpebcphkockkkaaDoorW.PrintWords Go.Proofs.YtpebcphkockkkaaDoorW.PrintLast Go.Proofs.YtpebcphkockkkaaDoorW.PrintMore

def rhoLZ : Shelf.Ren where
  f := fun x => match x with | 129 => 49 | 134 => 48 | 264 => 43 | x => x
  t := fun x => match x with | 3 => 3 | 4 => 4 | 5 => 5 | 9 => 9 | 46 => 49 | 53 => 22 | x => x
  g := fun x => x
theorem laysLZ : Lays.n134 Tryd.prog rhoLZ := by
  constructor
  all_goals first | kernel_rfl | (intro w; kernel_rfl) | (intro w; rfl)
def bits_LeadingZeros64.f (a0 : Int) : Option Int := if 0 ≤ a0 ∧ a0 ≤ 18446744073709551615 then some (64 - (Lib.bitLen a0.toNat : Int)) else none
theorem bits_LeadingZeros64.calls (a0 : Int) (r : Int) (w : World) (h : bits_LeadingZeros64.f a0 = some r) :
    Calls Tryd.prog 48 #[.int .u64 a0] w fun e w' => e = .returned (.int .i64 r) ∧ Drawn0 w w' := by
  unfold bits_LeadingZeros64.f at h
  split at h
  case isFalse => cases h
  rename_i hb
  have hh := Option.some.inj h
  subst hh
  refine (Any.bits_LeadingZeros64 laysLZ a0 w hb.1 hb.2).mono ?_
  rintro e w' ⟨rfl, rfl⟩
  exact ⟨rfl, 0, rfl⟩
theorem add64_run (x y : Int) (h0 : 0 ≤ x) (h1 : x < 18446744073709551616) (h2 : 0 ≤ y) (h3 : y < 18446744073709551616) (w : World) :
    (callFunc 44 #[.int .u64 x, .int .u64 y, .int .u64 0]).run Tryd.prog w =
      .ok (.value (.tuple #[.int .u64 ((x + y) % 18446744073709551616), .int .u64 ((x + y) / 18446744073709551616)])) w := by
  rw [run_callFunc_extern Tryd.func44 (by kernel_rfl) (by kernel_rfl) (by kernel_rfl) (e := add64Entry) (by kernel_rfl), run_add64 x y 0 (by omega) (by omega) (by omega) (by omega)]
  simp only [Result.andThen]
  rw [Int.add_zero]
end Go.Proofs.YtpebcphkockkkaaDoor.Hand
