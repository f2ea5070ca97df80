/-
  A clock turned: plain facts.
-/
import Derived.Test.YtcfndcjbgalnpaaPureC1
namespace Go.Proofs.Ytcfndcjbgalnpaa.Hand
open Go.RowKit Go.Proofs.YtcfndcjbgalnpaaW.PrintWords Go.Proofs.YtcfndcjbgalnpaaW.PrintLast Go.Proofs.YtcfndcjbgalnpaaW.PrintMore Go.Proofs.Ytcfndcjbgalnpaa.PA Go.Proofs.Ytcfndcjbgalnpaa.PB Go.Proofs.Ytcfndcjbgalnpaa.PC Go.Proofs.Ytcfndcjbgalnpaa.PL

theorem mask32 (x : Int) (h0 : 0 ≤ x) (h1 : x < 4294967296) : Go.bits .and .u64 x 4294967295 = x := by
  rw [u64_and x 4294967295 h0 (by omega) (by omega) (by omega), show ((4294967295 : Int).toNat) = 2 ^ 32 - 1 from rfl, Nat.and_two_pow_sub_one_eq_mod]
  omega
theorem mul_small (x y : Int) (h0 : 0 ≤ x) (h1 : x < 1048577) (h2 : 0 ≤ y) (h3 : y < 1048577) : bits_Mul64.f x y = some (0, x * y) := by
  have hp0 : 0 ≤ x * y := Int.mul_nonneg h0 h2
  have hp1 : x * y ≤ 1048576 * 1048576 := Int.mul_le_mul (by omega) (by omega) h2 (by omega)
  have dx : x / 4294967296 = 0 := by omega
  have dy : y / 4294967296 = 0 := by omega
  unfold bits_Mul64.f
  rw [mask32 x h0 (by omega), mask32 y h2 (by omega), dx, dy]
  simp only [Int.zero_mul, Int.mul_zero]
  have w0 : IntKind.u64.wrap 0 = 0 := by decide +kernel
  have wp : IntKind.u64.wrap (x * y) = x * y := IntWalk.u64_in _ ⟨hp0, by omega⟩
  rw [w0, wp]
  generalize x * y = p at *
  have hq : p / 4294967296 < 4294967296 := by omega
  have hq0 : 0 ≤ p / 4294967296 := by omega
  simp only [Int.zero_add, Int.add_zero]
  have z : p / 4294967296 / 4294967296 = 0 := by omega
  rw [IntWalk.u64_in (p / 4294967296) ⟨hq0, by omega⟩, mask32 (p / 4294967296) hq0 hq, IntWalk.u64_in (p / 4294967296) ⟨hq0, by omega⟩, z]
  simp only [w0, Int.add_zero]
/-- A clock that is turned: it stands where it stood; what is left over is told in the new fractions. -/
theorem turn_any {s P R n d t n2 d2 : Int} (S : Sp n d) (S2 : Sp n2 d2) (T : St s P R d) (t0 : 0 ≤ t) (t1 : t ≤ 4611686018427387904) (K : Nat) :
    clock_Clock_Turn.f (K + 1) s P R n d t n2 d2 = some (0, if t > s then t else s, (atV s P R n d t).1, (atV s P R n d t).2 * d2 / d, n2, d2) := by
  have ht : U64 t := ⟨t0, by omega⟩
  have I := (atV_inv S T ht).1
  have hd := S.d1
  have hd1 := S.d2
  have hm := mul_small (atV s P R n d t).2 d2 I.r0 (by have := I.r1; omega) (by have := S2.d1; omega) (by have := S2.d2; omega)
  have hp0 : 0 ≤ (atV s P R n d t).2 * d2 := Int.mul_nonneg I.r0 (by have := S2.d1; omega)
  have hp1 : (atV s P R n d t).2 * d2 ≤ 1048576 * 1048576 := Int.mul_le_mul (by have := I.r1; omega) S2.d2 (by have := S2.d1; omega) (by omega)
  have hv := hi_none K ((atV s P R n d t).2 * d2) d (by omega) hp0 (by omega)
  unfold clock_Clock_Turn.f
  rw [S2.may, Option.bind_some]
  refine (if_pos rfl).trans ?_
  rw [decide_eq_false (by omega), clock_Clock_Turn.j0]
  refine (if_neg (by simp)).trans ?_
  rw [Go_any S T ht, Option.bind_some]
  show (bits_Mul64.f (atV s P R n d t).2 d2).bind _ = _
  rw [hm, Option.bind_some]
  show (bits_Div64.f K 0 ((atV s P R n d t).2 * d2) d).bind _ = _
  rw [hv]; rfl
end Go.Proofs.Ytcfndcjbgalnpaa.Hand
