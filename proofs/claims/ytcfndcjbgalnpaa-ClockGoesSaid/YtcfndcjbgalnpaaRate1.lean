/-
  math/bits.LeadingZeros64, off the shelf; math/bits.Add64, which the model stands in for.
-/
import Derived.Test.YtcfndcjbgalnpaaPAx1
import Derived.Shelf.Small.Bits
import Derived.Shelf.Lays
import Derived.Laws.Externs
import Derived.Lib.BitFns
namespace Go.Proofs.Ytcfndcjbgalnpaa.Hand
open Go.RowKit Go.Proofs.YtcfndcjbgalnpaaW.PrintWords Go.Proofs.YtcfndcjbgalnpaaW.PrintLast Go.Proofs.YtcfndcjbgalnpaaW.PrintMore

def rhoLZ : Shelf.Ren where
  f := fun x => match x with | 129 => 32 | 134 => 30 | 264 => 24 | x => x
  t := fun x => match x with | 3 => 3 | 4 => 4 | 5 => 5 | 9 => 9 | 46 => 62 | 53 => 22 | x => x
  g := fun x => x
theorem laysLZ : Lays.n134 Try.prog rhoLZ := by
  constructor
  all_goals first | kernel_rfl | (intro w; kernel_rfl) | (intro w; rfl)
def bits_LeadingZeros64.f (a0 : Int) : Option Int := if 0 ≤ a0 ∧ a0 ≤ 18446744073709551615 then some (64 - (Lib.bitLen a0.toNat : Int)) else none
theorem bits_LeadingZeros64.calls (a0 : Int) (r : Int) (w : World) (h : bits_LeadingZeros64.f a0 = some r) :
    Calls Try.prog 30 #[.int .u64 a0] w fun e w' => e = .returned (.int .i64 r) ∧ Drawn0 w w' := by
  unfold bits_LeadingZeros64.f at h
  split at h
  case isFalse => cases h
  rename_i hb
  have hh := Option.some.inj h
  subst hh
  refine (Any.bits_LeadingZeros64 laysLZ a0 w hb.1 hb.2).mono ?_
  rintro e w' ⟨rfl, rfl⟩
  exact ⟨rfl, 0, rfl⟩
theorem add64_run (x y : Int) (h0 : 0 ≤ x) (h1 : x < 18446744073709551616) (h2 : 0 ≤ y) (h3 : y < 18446744073709551616) (w : World) :
    (callFunc 25 #[.int .u64 x, .int .u64 y, .int .u64 0]).run Try.prog w =
      .ok (.value (.tuple #[.int .u64 ((x + y) % 18446744073709551616), .int .u64 ((x + y) / 18446744073709551616)])) w := by
  rw [run_callFunc_extern Try.func25 (by kernel_rfl) (by kernel_rfl) (by kernel_rfl) (e := add64Entry) (by kernel_rfl), run_add64 x y 0 (by omega) (by omega) (by omega) (by omega)]
  simp only [Result.andThen]
  rw [Int.add_zero]
end Go.Proofs.Ytcfndcjbgalnpaa.Hand
