/-
  Plain facts: Div64 by a power of two. No program. (printed by gen_r2.py of this repo)
-/
import Derived.Test.YtpebcphkockkkaaDoorPureR1
import Derived.Test.YtpebcphkockkkaaDoorPBx1
namespace Go.Proofs.YtpebcphkockkkaaDoor.Hand
open Go.RowKit Go.Proofs.YtpebcphkockkkaaDoorW.PrintWords Go.Proofs.YtpebcphkockkkaaDoorW.PrintLast Go.Proofs.YtpebcphkockkkaaDoorW.PrintMore Go.Proofs.YtpebcphkockkkaaDoor.PA Go.Proofs.YtpebcphkockkkaaDoor.PB

theorem wrapU (n : Int) : IntKind.u64.wrap n = n % 18446744073709551616 := by
  simp [IntKind.wrap, IntKind.bits, IntKind.signed]
theorem core64 (K : Nat) (N A B s : Int) (n0 : 0 ≤ N) (n1 : N < 9223372036854775808) (a0 : 0 ≤ A) (a1 : A < 4294967296) (b0 : 0 ≤ B) (b1 : B < 4294967296) (hs : 0 ≤ s) :
    bits_Div64.l0 (K + 1 + 1 + 1 + 1 + 1) 9223372036854775808 s 2147483648 0 N A B (N / 2147483648) (N % 2147483648) = some (2 * N + A / 2147483648, shr .u64 (A % 2147483648 * 4294967296 + B) s) := by
  have q1 : N / 2147483648 < 4294967296 := by omega
  have q0 : 0 ≤ N / 2147483648 := by omega
  have c1 : ¬ (N / 2147483648 ≥ 4294967296) := by omega
  have w1 : IntKind.u64.wrap (N / 2147483648 * 0) = 0 := by rw [wrapU]; omega
  have w2 : 0 ≤ IntKind.u64.wrap (IntKind.u64.wrap (4294967296 * (N % 2147483648)) + A) := by rw [wrapU]; omega
  have d1 : decide ((0 : Int) > IntKind.u64.wrap (IntKind.u64.wrap (4294967296 * (N % 2147483648)) + A)) = false := decide_eq_false (by clear w1; omega)
  have eU : IntKind.u64.wrap (IntKind.u64.wrap (IntKind.u64.wrap (N * 4294967296) + A) - IntKind.u64.wrap (N / 2147483648 * 9223372036854775808)) = N % 2147483648 * 4294967296 + A := by
    simp only [wrapU]
    omega
  rw [bits_Div64.l0, w1, d1]
  refine (if_neg c1).trans ?_
  rw [bits_Div64.j1]
  refine (if_neg (by simp)).trans ?_
  rw [bits_Div64.j2]
  refine (if_neg (by omega)).trans ?_
  rw [eU]
  clear eU w1 w2 d1
  obtain ⟨U, hU⟩ : ∃ U, N % 2147483648 * 4294967296 + A = U := ⟨_, rfl⟩
  rw [hU]
  have u0 : 0 ≤ U := by omega
  have u1 : U < 9223372036854775808 := by omega
  have t1 : IntKind.u64.wrap (Int.tdiv U 2147483648) = U / 2147483648 := by rw [Int.tdiv_eq_ediv_of_nonneg u0, wrapU]; omega
  have t2 : IntKind.u64.wrap (U - IntKind.u64.wrap (U / 2147483648 * 2147483648)) = U % 2147483648 := by simp only [wrapU]; omega
  rw [t1, t2]
  clear t1 t2
  have c2 : ¬ (U / 2147483648 ≥ 4294967296) := by omega
  have w3 : IntKind.u64.wrap (U / 2147483648 * 0) = 0 := by rw [wrapU]; omega
  have w4 : 0 ≤ IntKind.u64.wrap (IntKind.u64.wrap (4294967296 * (U % 2147483648)) + B) := by rw [wrapU]; omega
  have d2 : decide ((0 : Int) > IntKind.u64.wrap (IntKind.u64.wrap (4294967296 * (U % 2147483648)) + B)) = false := decide_eq_false (by clear w3; omega)
  have e1 : IntKind.u64.wrap (IntKind.u64.wrap (N / 2147483648 * 4294967296) + U / 2147483648) = 2 * N + A / 2147483648 := by simp only [wrapU]; omega
  have e2 : IntKind.u64.wrap (IntKind.u64.wrap (IntKind.u64.wrap (U * 4294967296) + B) - IntKind.u64.wrap (U / 2147483648 * 9223372036854775808)) = A % 2147483648 * 4294967296 + B := by simp only [wrapU]; omega
  rw [bits_Div64.l1, w3, d2]
  refine (if_neg c2).trans ?_
  rw [bits_Div64.j4]
  refine (if_neg (by simp)).trans ((if_pos hs).trans ?_)
  rw [e1, e2]
theorem hi_none (K : Nat) (lo y : Int) (hy : 0 < y) (l0 : 0 ≤ lo) (l1 : lo < 18446744073709551616) : bits_Div64.f K 0 lo y = some (lo / y, lo % y) := by
  unfold bits_Div64.f
  refine (if_neg (by omega)).trans ((if_neg (by omega)).trans ((if_pos rfl).trans ?_))
  have hb := Int.ediv_nonneg l0 (Int.le_of_lt hy)
  have hc : lo / y ≤ lo := Int.ediv_le_self y l0
  rw [Int.tdiv_eq_ediv_of_nonneg l0, Int.tmod_eq_emod_of_nonneg l0, IntWalk.u64_in _ (by omega)]
theorem or_highR (n m s : Nat) (hn : n < 2 ^ s) : n ||| (m * 2 ^ s) = n + m * 2 ^ s := by
  have := Nat.shiftLeft_add_eq_or_of_lt hn m
  rw [Nat.shiftLeft_eq] at this
  rw [Nat.or_comm, ← this, Nat.add_comm]
theorem div64_0 (K : Nat) (hi lo : Int) (h0 : 0 < hi) (h1 : hi < 1) (l0 : 0 ≤ lo) (l1 : lo < 18446744073709551616) :
    bits_Div64.f (K + 1 + 1 + 1 + 1 + 1) hi lo 1 = some ((hi * 18446744073709551616 + lo) / 1, lo % 1) := by
  have z : bits_LeadingZeros64.f 1 = some 63 := by decide +kernel
  have e1 : shl .u64 1 63 = 9223372036854775808 := by decide +kernel
  have e2 : Go.bits .and .u64 9223372036854775808 4294967295 = 0 := by decide +kernel
  have e3 : shl .u64 hi 63 = hi * 9223372036854775808 := by
    show IntKind.u64.wrap (hi * 9223372036854775808) = _
    rw [wrapU]; omega
  have e4 : shr .u64 lo 1 = lo / 2 := rfl
  have e5 : Go.bits .or .u64 (hi * 9223372036854775808) (lo / 2) = hi * 9223372036854775808 + lo / 2 := by
    rw [u64_or (hi * 9223372036854775808) (lo / 2) (by omega) (by omega) (by omega) (by omega), Nat.or_comm]
    have : (hi * 9223372036854775808).toNat = hi.toNat * 2 ^ 63 := by
      rw [Int.toNat_mul (by omega) (by omega)]; rfl
    rw [this, or_highR _ _ 63 (by omega)]
    omega
  have e6 : shl .u64 lo 63 = lo % 2 * 9223372036854775808 := by
    show IntKind.u64.wrap (lo * 9223372036854775808) = _
    rw [wrapU]; omega
  have e7 : Go.bits .and .u64 (lo % 2 * 9223372036854775808) 4294967295 = (lo % 2 * 9223372036854775808) % 4294967296 := by
    rw [u64_and _ 4294967295 (by omega) (by omega) (by omega) (by omega), show ((4294967295 : Int).toNat) = 2 ^ 32 - 1 from rfl, Nat.and_two_pow_sub_one_eq_mod]
    omega
  have c := core64 K (hi * 9223372036854775808 + lo / 2) (lo % 2 * 9223372036854775808 / 4294967296) (lo % 2 * 9223372036854775808 % 4294967296) 63 (by omega) (by omega) (by omega) (by omega) (by omega) (by omega) (by omega)
  have t1 : IntKind.u64.wrap (Int.tdiv (hi * 9223372036854775808 + lo / 2) 2147483648) = (hi * 9223372036854775808 + lo / 2) / 2147483648 := by
    rw [Int.tdiv_eq_ediv_of_nonneg (by omega), wrapU]; omega
  have t2 : IntKind.u64.wrap (hi * 9223372036854775808 + lo / 2 - IntKind.u64.wrap ((hi * 9223372036854775808 + lo / 2) / 2147483648 * 2147483648)) = (hi * 9223372036854775808 + lo / 2) % 2147483648 := by
    simp only [wrapU]; omega
  have w1 : IntKind.u64.wrap 63 = 63 := by decide +kernel
  have w2 : IntKind.u64.wrap (64 - 63) = 1 := by decide +kernel
  have w3 : (9223372036854775808 : Int) / 4294967296 = 2147483648 := by decide +kernel
  unfold bits_Div64.f
  refine (if_neg (by omega)).trans ((if_neg (by omega)).trans ((if_neg (by omega)).trans ?_))
  rw [z, Option.bind_some, w1, w2, e1, e2, e3, e4, e5, e6, e7, w3, t1, t2]
  refine (if_pos (by omega)).trans ((if_pos (by omega)).trans ((if_neg (by omega)).trans (c.trans ?_)))
  have r1 : 2 * (hi * 9223372036854775808 + lo / 2) + lo % 2 * 9223372036854775808 / 4294967296 / 2147483648 = (hi * 18446744073709551616 + lo) / 1 := by omega
  have r2 : shr .u64 (lo % 2 * 9223372036854775808 / 4294967296 % 2147483648 * 4294967296 + lo % 2 * 9223372036854775808 % 4294967296) 63 = lo % 1 := by
    show (lo % 2 * 9223372036854775808 / 4294967296 % 2147483648 * 4294967296 + lo % 2 * 9223372036854775808 % 4294967296) / 9223372036854775808 = _
    omega
  rw [r1, r2]
theorem div64_1 (K : Nat) (hi lo : Int) (h0 : 0 < hi) (h1 : hi < 2) (l0 : 0 ≤ lo) (l1 : lo < 18446744073709551616) :
    bits_Div64.f (K + 1 + 1 + 1 + 1 + 1) hi lo 2 = some ((hi * 18446744073709551616 + lo) / 2, lo % 2) := by
  have z : bits_LeadingZeros64.f 2 = some 62 := by decide +kernel
  have e1 : shl .u64 2 62 = 9223372036854775808 := by decide +kernel
  have e2 : Go.bits .and .u64 9223372036854775808 4294967295 = 0 := by decide +kernel
  have e3 : shl .u64 hi 62 = hi * 4611686018427387904 := by
    show IntKind.u64.wrap (hi * 4611686018427387904) = _
    rw [wrapU]; omega
  have e4 : shr .u64 lo 2 = lo / 4 := rfl
  have e5 : Go.bits .or .u64 (hi * 4611686018427387904) (lo / 4) = hi * 4611686018427387904 + lo / 4 := by
    rw [u64_or (hi * 4611686018427387904) (lo / 4) (by omega) (by omega) (by omega) (by omega), Nat.or_comm]
    have : (hi * 4611686018427387904).toNat = hi.toNat * 2 ^ 62 := by
      rw [Int.toNat_mul (by omega) (by omega)]; rfl
    rw [this, or_highR _ _ 62 (by omega)]
    omega
  have e6 : shl .u64 lo 62 = lo % 4 * 4611686018427387904 := by
    show IntKind.u64.wrap (lo * 4611686018427387904) = _
    rw [wrapU]; omega
  have e7 : Go.bits .and .u64 (lo % 4 * 4611686018427387904) 4294967295 = (lo % 4 * 4611686018427387904) % 4294967296 := by
    rw [u64_and _ 4294967295 (by omega) (by omega) (by omega) (by omega), show ((4294967295 : Int).toNat) = 2 ^ 32 - 1 from rfl, Nat.and_two_pow_sub_one_eq_mod]
    omega
  have c := core64 K (hi * 4611686018427387904 + lo / 4) (lo % 4 * 4611686018427387904 / 4294967296) (lo % 4 * 4611686018427387904 % 4294967296) 62 (by omega) (by omega) (by omega) (by omega) (by omega) (by omega) (by omega)
  have t1 : IntKind.u64.wrap (Int.tdiv (hi * 4611686018427387904 + lo / 4) 2147483648) = (hi * 4611686018427387904 + lo / 4) / 2147483648 := by
    rw [Int.tdiv_eq_ediv_of_nonneg (by omega), wrapU]; omega
  have t2 : IntKind.u64.wrap (hi * 4611686018427387904 + lo / 4 - IntKind.u64.wrap ((hi * 4611686018427387904 + lo / 4) / 2147483648 * 2147483648)) = (hi * 4611686018427387904 + lo / 4) % 2147483648 := by
    simp only [wrapU]; omega
  have w1 : IntKind.u64.wrap 62 = 62 := by decide +kernel
  have w2 : IntKind.u64.wrap (64 - 62) = 2 := by decide +kernel
  have w3 : (9223372036854775808 : Int) / 4294967296 = 2147483648 := by decide +kernel
  unfold bits_Div64.f
  refine (if_neg (by omega)).trans ((if_neg (by omega)).trans ((if_neg (by omega)).trans ?_))
  rw [z, Option.bind_some, w1, w2, e1, e2, e3, e4, e5, e6, e7, w3, t1, t2]
  refine (if_pos (by omega)).trans ((if_pos (by omega)).trans ((if_neg (by omega)).trans (c.trans ?_)))
  have r1 : 2 * (hi * 4611686018427387904 + lo / 4) + lo % 4 * 4611686018427387904 / 4294967296 / 2147483648 = (hi * 18446744073709551616 + lo) / 2 := by omega
  have r2 : shr .u64 (lo % 4 * 4611686018427387904 / 4294967296 % 2147483648 * 4294967296 + lo % 4 * 4611686018427387904 % 4294967296) 62 = lo % 2 := by
    show (lo % 4 * 4611686018427387904 / 4294967296 % 2147483648 * 4294967296 + lo % 4 * 4611686018427387904 % 4294967296) / 4611686018427387904 = _
    omega
  rw [r1, r2]
theorem div64_2 (K : Nat) (hi lo : Int) (h0 : 0 < hi) (h1 : hi < 4) (l0 : 0 ≤ lo) (l1 : lo < 18446744073709551616) :
    bits_Div64.f (K + 1 + 1 + 1 + 1 + 1) hi lo 4 = some ((hi * 18446744073709551616 + lo) / 4, lo % 4) := by
  have z : bits_LeadingZeros64.f 4 = some 61 := by decide +kernel
  have e1 : shl .u64 4 61 = 9223372036854775808 := by decide +kernel
  have e2 : Go.bits .and .u64 9223372036854775808 4294967295 = 0 := by decide +kernel
  have e3 : shl .u64 hi 61 = hi * 2305843009213693952 := by
    show IntKind.u64.wrap (hi * 2305843009213693952) = _
    rw [wrapU]; omega
  have e4 : shr .u64 lo 3 = lo / 8 := rfl
  have e5 : Go.bits .or .u64 (hi * 2305843009213693952) (lo / 8) = hi * 2305843009213693952 + lo / 8 := by
    rw [u64_or (hi * 2305843009213693952) (lo / 8) (by omega) (by omega) (by omega) (by omega), Nat.or_comm]
    have : (hi * 2305843009213693952).toNat = hi.toNat * 2 ^ 61 := by
      rw [Int.toNat_mul (by omega) (by omega)]; rfl
    rw [this, or_highR _ _ 61 (by omega)]
    omega
  have e6 : shl .u64 lo 61 = lo % 8 * 2305843009213693952 := by
    show IntKind.u64.wrap (lo * 2305843009213693952) = _
    rw [wrapU]; omega
  have e7 : Go.bits .and .u64 (lo % 8 * 2305843009213693952) 4294967295 = (lo % 8 * 2305843009213693952) % 4294967296 := by
    rw [u64_and _ 4294967295 (by omega) (by omega) (by omega) (by omega), show ((4294967295 : Int).toNat) = 2 ^ 32 - 1 from rfl, Nat.and_two_pow_sub_one_eq_mod]
    omega
  have c := core64 K (hi * 2305843009213693952 + lo / 8) (lo % 8 * 2305843009213693952 / 4294967296) (lo % 8 * 2305843009213693952 % 4294967296) 61 (by omega) (by omega) (by omega) (by omega) (by omega) (by omega) (by omega)
  have t1 : IntKind.u64.wrap (Int.tdiv (hi * 2305843009213693952 + lo / 8) 2147483648) = (hi * 2305843009213693952 + lo / 8) / 2147483648 := by
    rw [Int.tdiv_eq_ediv_of_nonneg (by omega), wrapU]; omega
  have t2 : IntKind.u64.wrap (hi * 2305843009213693952 + lo / 8 - IntKind.u64.wrap ((hi * 2305843009213693952 + lo / 8) / 2147483648 * 2147483648)) = (hi * 2305843009213693952 + lo / 8) % 2147483648 := by
    simp only [wrapU]; omega
  have w1 : IntKind.u64.wrap 61 = 61 := by decide +kernel
  have w2 : IntKind.u64.wrap (64 - 61) = 3 := by decide +kernel
  have w3 : (9223372036854775808 : Int) / 4294967296 = 2147483648 := by decide +kernel
  unfold bits_Div64.f
  refine (if_neg (by omega)).trans ((if_neg (by omega)).trans ((if_neg (by omega)).trans ?_))
  rw [z, Option.bind_some, w1, w2, e1, e2, e3, e4, e5, e6, e7, w3, t1, t2]
  refine (if_pos (by omega)).trans ((if_pos (by omega)).trans ((if_neg (by omega)).trans (c.trans ?_)))
  have r1 : 2 * (hi * 2305843009213693952 + lo / 8) + lo % 8 * 2305843009213693952 / 4294967296 / 2147483648 = (hi * 18446744073709551616 + lo) / 4 := by omega
  have r2 : shr .u64 (lo % 8 * 2305843009213693952 / 4294967296 % 2147483648 * 4294967296 + lo % 8 * 2305843009213693952 % 4294967296) 61 = lo % 4 := by
    show (lo % 8 * 2305843009213693952 / 4294967296 % 2147483648 * 4294967296 + lo % 8 * 2305843009213693952 % 4294967296) / 2305843009213693952 = _
    omega
  rw [r1, r2]
theorem div64_3 (K : Nat) (hi lo : Int) (h0 : 0 < hi) (h1 : hi < 8) (l0 : 0 ≤ lo) (l1 : lo < 18446744073709551616) :
    bits_Div64.f (K + 1 + 1 + 1 + 1 + 1) hi lo 8 = some ((hi * 18446744073709551616 + lo) / 8, lo % 8) := by
  have z : bits_LeadingZeros64.f 8 = some 60 := by decide +kernel
  have e1 : shl .u64 8 60 = 9223372036854775808 := by decide +kernel
  have e2 : Go.bits .and .u64 9223372036854775808 4294967295 = 0 := by decide +kernel
  have e3 : shl .u64 hi 60 = hi * 1152921504606846976 := by
    show IntKind.u64.wrap (hi * 1152921504606846976) = _
    rw [wrapU]; omega
  have e4 : shr .u64 lo 4 = lo / 16 := rfl
  have e5 : Go.bits .or .u64 (hi * 1152921504606846976) (lo / 16) = hi * 1152921504606846976 + lo / 16 := by
    rw [u64_or (hi * 1152921504606846976) (lo / 16) (by omega) (by omega) (by omega) (by omega), Nat.or_comm]
    have : (hi * 1152921504606846976).toNat = hi.toNat * 2 ^ 60 := by
      rw [Int.toNat_mul (by omega) (by omega)]; rfl
    rw [this, or_highR _ _ 60 (by omega)]
    omega
  have e6 : shl .u64 lo 60 = lo % 16 * 1152921504606846976 := by
    show IntKind.u64.wrap (lo * 1152921504606846976) = _
    rw [wrapU]; omega
  have e7 : Go.bits .and .u64 (lo % 16 * 1152921504606846976) 4294967295 = (lo % 16 * 1152921504606846976) % 4294967296 := by
    rw [u64_and _ 4294967295 (by omega) (by omega) (by omega) (by omega), show ((4294967295 : Int).toNat) = 2 ^ 32 - 1 from rfl, Nat.and_two_pow_sub_one_eq_mod]
    omega
  have c := core64 K (hi * 1152921504606846976 + lo / 16) (lo % 16 * 1152921504606846976 / 4294967296) (lo % 16 * 1152921504606846976 % 4294967296) 60 (by omega) (by omega) (by omega) (by omega) (by omega) (by omega) (by omega)
  have t1 : IntKind.u64.wrap (Int.tdiv (hi * 1152921504606846976 + lo / 16) 2147483648) = (hi * 1152921504606846976 + lo / 16) / 2147483648 := by
    rw [Int.tdiv_eq_ediv_of_nonneg (by omega), wrapU]; omega
  have t2 : IntKind.u64.wrap (hi * 1152921504606846976 + lo / 16 - IntKind.u64.wrap ((hi * 1152921504606846976 + lo / 16) / 2147483648 * 2147483648)) = (hi * 1152921504606846976 + lo / 16) % 2147483648 := by
    simp only [wrapU]; omega
  have w1 : IntKind.u64.wrap 60 = 60 := by decide +kernel
  have w2 : IntKind.u64.wrap (64 - 60) = 4 := by decide +kernel
  have w3 : (9223372036854775808 : Int) / 4294967296 = 2147483648 := by decide +kernel
  unfold bits_Div64.f
  refine (if_neg (by omega)).trans ((if_neg (by omega)).trans ((if_neg (by omega)).trans ?_))
  rw [z, Option.bind_some, w1, w2, e1, e2, e3, e4, e5, e6, e7, w3, t1, t2]
  refine (if_pos (by omega)).trans ((if_pos (by omega)).trans ((if_neg (by omega)).trans (c.trans ?_)))
  have r1 : 2 * (hi * 1152921504606846976 + lo / 16) + lo % 16 * 1152921504606846976 / 4294967296 / 2147483648 = (hi * 18446744073709551616 + lo) / 8 := by omega
  have r2 : shr .u64 (lo % 16 * 1152921504606846976 / 4294967296 % 2147483648 * 4294967296 + lo % 16 * 1152921504606846976 % 4294967296) 60 = lo % 8 := by
    show (lo % 16 * 1152921504606846976 / 4294967296 % 2147483648 * 4294967296 + lo % 16 * 1152921504606846976 % 4294967296) / 1152921504606846976 = _
    omega
  rw [r1, r2]
theorem div64_4 (K : Nat) (hi lo : Int) (h0 : 0 < hi) (h1 : hi < 16) (l0 : 0 ≤ lo) (l1 : lo < 18446744073709551616) :
    bits_Div64.f (K + 1 + 1 + 1 + 1 + 1) hi lo 16 = some ((hi * 18446744073709551616 + lo) / 16, lo % 16) := by
  have z : bits_LeadingZeros64.f 16 = some 59 := by decide +kernel
  have e1 : shl .u64 16 59 = 9223372036854775808 := by decide +kernel
  have e2 : Go.bits .and .u64 9223372036854775808 4294967295 = 0 := by decide +kernel
  have e3 : shl .u64 hi 59 = hi * 576460752303423488 := by
    show IntKind.u64.wrap (hi * 576460752303423488) = _
    rw [wrapU]; omega
  have e4 : shr .u64 lo 5 = lo / 32 := rfl
  have e5 : Go.bits .or .u64 (hi * 576460752303423488) (lo / 32) = hi * 576460752303423488 + lo / 32 := by
    rw [u64_or (hi * 576460752303423488) (lo / 32) (by omega) (by omega) (by omega) (by omega), Nat.or_comm]
    have : (hi * 576460752303423488).toNat = hi.toNat * 2 ^ 59 := by
      rw [Int.toNat_mul (by omega) (by omega)]; rfl
    rw [this, or_highR _ _ 59 (by omega)]
    omega
  have e6 : shl .u64 lo 59 = lo % 32 * 576460752303423488 := by
    show IntKind.u64.wrap (lo * 576460752303423488) = _
    rw [wrapU]; omega
  have e7 : Go.bits .and .u64 (lo % 32 * 576460752303423488) 4294967295 = (lo % 32 * 576460752303423488) % 4294967296 := by
    rw [u64_and _ 4294967295 (by omega) (by omega) (by omega) (by omega), show ((4294967295 : Int).toNat) = 2 ^ 32 - 1 from rfl, Nat.and_two_pow_sub_one_eq_mod]
    omega
  have c := core64 K (hi * 576460752303423488 + lo / 32) (lo % 32 * 576460752303423488 / 4294967296) (lo % 32 * 576460752303423488 % 4294967296) 59 (by omega) (by omega) (by omega) (by omega) (by omega) (by omega) (by omega)
  have t1 : IntKind.u64.wrap (Int.tdiv (hi * 576460752303423488 + lo / 32) 2147483648) = (hi * 576460752303423488 + lo / 32) / 2147483648 := by
    rw [Int.tdiv_eq_ediv_of_nonneg (by omega), wrapU]; omega
  have t2 : IntKind.u64.wrap (hi * 576460752303423488 + lo / 32 - IntKind.u64.wrap ((hi * 576460752303423488 + lo / 32) / 2147483648 * 2147483648)) = (hi * 576460752303423488 + lo / 32) % 2147483648 := by
    simp only [wrapU]; omega
  have w1 : IntKind.u64.wrap 59 = 59 := by decide +kernel
  have w2 : IntKind.u64.wrap (64 - 59) = 5 := by decide +kernel
  have w3 : (9223372036854775808 : Int) / 4294967296 = 2147483648 := by decide +kernel
  unfold bits_Div64.f
  refine (if_neg (by omega)).trans ((if_neg (by omega)).trans ((if_neg (by omega)).trans ?_))
  rw [z, Option.bind_some, w1, w2, e1, e2, e3, e4, e5, e6, e7, w3, t1, t2]
  refine (if_pos (by omega)).trans ((if_pos (by omega)).trans ((if_neg (by omega)).trans (c.trans ?_)))
  have r1 : 2 * (hi * 576460752303423488 + lo / 32) + lo % 32 * 576460752303423488 / 4294967296 / 2147483648 = (hi * 18446744073709551616 + lo) / 16 := by omega
  have r2 : shr .u64 (lo % 32 * 576460752303423488 / 4294967296 % 2147483648 * 4294967296 + lo % 32 * 576460752303423488 % 4294967296) 59 = lo % 16 := by
    show (lo % 32 * 576460752303423488 / 4294967296 % 2147483648 * 4294967296 + lo % 32 * 576460752303423488 % 4294967296) / 576460752303423488 = _
    omega
  rw [r1, r2]
theorem div64_5 (K : Nat) (hi lo : Int) (h0 : 0 < hi) (h1 : hi < 32) (l0 : 0 ≤ lo) (l1 : lo < 18446744073709551616) :
    bits_Div64.f (K + 1 + 1 + 1 + 1 + 1) hi lo 32 = some ((hi * 18446744073709551616 + lo) / 32, lo % 32) := by
  have z : bits_LeadingZeros64.f 32 = some 58 := by decide +kernel
  have e1 : shl .u64 32 58 = 9223372036854775808 := by decide +kernel
  have e2 : Go.bits .and .u64 9223372036854775808 4294967295 = 0 := by decide +kernel
  have e3 : shl .u64 hi 58 = hi * 288230376151711744 := by
    show IntKind.u64.wrap (hi * 288230376151711744) = _
    rw [wrapU]; omega
  have e4 : shr .u64 lo 6 = lo / 64 := rfl
  have e5 : Go.bits .or .u64 (hi * 288230376151711744) (lo / 64) = hi * 288230376151711744 + lo / 64 := by
    rw [u64_or (hi * 288230376151711744) (lo / 64) (by omega) (by omega) (by omega) (by omega), Nat.or_comm]
    have : (hi * 288230376151711744).toNat = hi.toNat * 2 ^ 58 := by
      rw [Int.toNat_mul (by omega) (by omega)]; rfl
    rw [this, or_highR _ _ 58 (by omega)]
    omega
  have e6 : shl .u64 lo 58 = lo % 64 * 288230376151711744 := by
    show IntKind.u64.wrap (lo * 288230376151711744) = _
    rw [wrapU]; omega
  have e7 : Go.bits .and .u64 (lo % 64 * 288230376151711744) 4294967295 = (lo % 64 * 288230376151711744) % 4294967296 := by
    rw [u64_and _ 4294967295 (by omega) (by omega) (by omega) (by omega), show ((4294967295 : Int).toNat) = 2 ^ 32 - 1 from rfl, Nat.and_two_pow_sub_one_eq_mod]
    omega
  have c := core64 K (hi * 288230376151711744 + lo / 64) (lo % 64 * 288230376151711744 / 4294967296) (lo % 64 * 288230376151711744 % 4294967296) 58 (by omega) (by omega) (by omega) (by omega) (by omega) (by omega) (by omega)
  have t1 : IntKind.u64.wrap (Int.tdiv (hi * 288230376151711744 + lo / 64) 2147483648) = (hi * 288230376151711744 + lo / 64) / 2147483648 := by
    rw [Int.tdiv_eq_ediv_of_nonneg (by omega), wrapU]; omega
  have t2 : IntKind.u64.wrap (hi * 288230376151711744 + lo / 64 - IntKind.u64.wrap ((hi * 288230376151711744 + lo / 64) / 2147483648 * 2147483648)) = (hi * 288230376151711744 + lo / 64) % 2147483648 := by
    simp only [wrapU]; omega
  have w1 : IntKind.u64.wrap 58 = 58 := by decide +kernel
  have w2 : IntKind.u64.wrap (64 - 58) = 6 := by decide +kernel
  have w3 : (9223372036854775808 : Int) / 4294967296 = 2147483648 := by decide +kernel
  unfold bits_Div64.f
  refine (if_neg (by omega)).trans ((if_neg (by omega)).trans ((if_neg (by omega)).trans ?_))
  rw [z, Option.bind_some, w1, w2, e1, e2, e3, e4, e5, e6, e7, w3, t1, t2]
  refine (if_pos (by omega)).trans ((if_pos (by omega)).trans ((if_neg (by omega)).trans (c.trans ?_)))
  have r1 : 2 * (hi * 288230376151711744 + lo / 64) + lo % 64 * 288230376151711744 / 4294967296 / 2147483648 = (hi * 18446744073709551616 + lo) / 32 := by omega
  have r2 : shr .u64 (lo % 64 * 288230376151711744 / 4294967296 % 2147483648 * 4294967296 + lo % 64 * 288230376151711744 % 4294967296) 58 = lo % 32 := by
    show (lo % 64 * 288230376151711744 / 4294967296 % 2147483648 * 4294967296 + lo % 64 * 288230376151711744 % 4294967296) / 288230376151711744 = _
    omega
  rw [r1, r2]
theorem div64_6 (K : Nat) (hi lo : Int) (h0 : 0 < hi) (h1 : hi < 64) (l0 : 0 ≤ lo) (l1 : lo < 18446744073709551616) :
    bits_Div64.f (K + 1 + 1 + 1 + 1 + 1) hi lo 64 = some ((hi * 18446744073709551616 + lo) / 64, lo % 64) := by
  have z : bits_LeadingZeros64.f 64 = some 57 := by decide +kernel
  have e1 : shl .u64 64 57 = 9223372036854775808 := by decide +kernel
  have e2 : Go.bits .and .u64 9223372036854775808 4294967295 = 0 := by decide +kernel
  have e3 : shl .u64 hi 57 = hi * 144115188075855872 := by
    show IntKind.u64.wrap (hi * 144115188075855872) = _
    rw [wrapU]; omega
  have e4 : shr .u64 lo 7 = lo / 128 := rfl
  have e5 : Go.bits .or .u64 (hi * 144115188075855872) (lo / 128) = hi * 144115188075855872 + lo / 128 := by
    rw [u64_or (hi * 144115188075855872) (lo / 128) (by omega) (by omega) (by omega) (by omega), Nat.or_comm]
    have : (hi * 144115188075855872).toNat = hi.toNat * 2 ^ 57 := by
      rw [Int.toNat_mul (by omega) (by omega)]; rfl
    rw [this, or_highR _ _ 57 (by omega)]
    omega
  have e6 : shl .u64 lo 57 = lo % 128 * 144115188075855872 := by
    show IntKind.u64.wrap (lo * 144115188075855872) = _
    rw [wrapU]; omega
  have e7 : Go.bits .and .u64 (lo % 128 * 144115188075855872) 4294967295 = (lo % 128 * 144115188075855872) % 4294967296 := by
    rw [u64_and _ 4294967295 (by omega) (by omega) (by omega) (by omega), show ((4294967295 : Int).toNat) = 2 ^ 32 - 1 from rfl, Nat.and_two_pow_sub_one_eq_mod]
    omega
  have c := core64 K (hi * 144115188075855872 + lo / 128) (lo % 128 * 144115188075855872 / 4294967296) (lo % 128 * 144115188075855872 % 4294967296) 57 (by omega) (by omega) (by omega) (by omega) (by omega) (by omega) (by omega)
  have t1 : IntKind.u64.wrap (Int.tdiv (hi * 144115188075855872 + lo / 128) 2147483648) = (hi * 144115188075855872 + lo / 128) / 2147483648 := by
    rw [Int.tdiv_eq_ediv_of_nonneg (by omega), wrapU]; omega
  have t2 : IntKind.u64.wrap (hi * 144115188075855872 + lo / 128 - IntKind.u64.wrap ((hi * 144115188075855872 + lo / 128) / 2147483648 * 2147483648)) = (hi * 144115188075855872 + lo / 128) % 2147483648 := by
    simp only [wrapU]; omega
  have w1 : IntKind.u64.wrap 57 = 57 := by decide +kernel
  have w2 : IntKind.u64.wrap (64 - 57) = 7 := by decide +kernel
  have w3 : (9223372036854775808 : Int) / 4294967296 = 2147483648 := by decide +kernel
  unfold bits_Div64.f
  refine (if_neg (by omega)).trans ((if_neg (by omega)).trans ((if_neg (by omega)).trans ?_))
  rw [z, Option.bind_some, w1, w2, e1, e2, e3, e4, e5, e6, e7, w3, t1, t2]
  refine (if_pos (by omega)).trans ((if_pos (by omega)).trans ((if_neg (by omega)).trans (c.trans ?_)))
  have r1 : 2 * (hi * 144115188075855872 + lo / 128) + lo % 128 * 144115188075855872 / 4294967296 / 2147483648 = (hi * 18446744073709551616 + lo) / 64 := by omega
  have r2 : shr .u64 (lo % 128 * 144115188075855872 / 4294967296 % 2147483648 * 4294967296 + lo % 128 * 144115188075855872 % 4294967296) 57 = lo % 64 := by
    show (lo % 128 * 144115188075855872 / 4294967296 % 2147483648 * 4294967296 + lo % 128 * 144115188075855872 % 4294967296) / 144115188075855872 = _
    omega
  rw [r1, r2]
theorem div64_7 (K : Nat) (hi lo : Int) (h0 : 0 < hi) (h1 : hi < 128) (l0 : 0 ≤ lo) (l1 : lo < 18446744073709551616) :
    bits_Div64.f (K + 1 + 1 + 1 + 1 + 1) hi lo 128 = some ((hi * 18446744073709551616 + lo) / 128, lo % 128) := by
  have z : bits_LeadingZeros64.f 128 = some 56 := by decide +kernel
  have e1 : shl .u64 128 56 = 9223372036854775808 := by decide +kernel
  have e2 : Go.bits .and .u64 9223372036854775808 4294967295 = 0 := by decide +kernel
  have e3 : shl .u64 hi 56 = hi * 72057594037927936 := by
    show IntKind.u64.wrap (hi * 72057594037927936) = _
    rw [wrapU]; omega
  have e4 : shr .u64 lo 8 = lo / 256 := rfl
  have e5 : Go.bits .or .u64 (hi * 72057594037927936) (lo / 256) = hi * 72057594037927936 + lo / 256 := by
    rw [u64_or (hi * 72057594037927936) (lo / 256) (by omega) (by omega) (by omega) (by omega), Nat.or_comm]
    have : (hi * 72057594037927936).toNat = hi.toNat * 2 ^ 56 := by
      rw [Int.toNat_mul (by omega) (by omega)]; rfl
    rw [this, or_highR _ _ 56 (by omega)]
    omega
  have e6 : shl .u64 lo 56 = lo % 256 * 72057594037927936 := by
    show IntKind.u64.wrap (lo * 72057594037927936) = _
    rw [wrapU]; omega
  have e7 : Go.bits .and .u64 (lo % 256 * 72057594037927936) 4294967295 = (lo % 256 * 72057594037927936) % 4294967296 := by
    rw [u64_and _ 4294967295 (by omega) (by omega) (by omega) (by omega), show ((4294967295 : Int).toNat) = 2 ^ 32 - 1 from rfl, Nat.and_two_pow_sub_one_eq_mod]
    omega
  have c := core64 K (hi * 72057594037927936 + lo / 256) (lo % 256 * 72057594037927936 / 4294967296) (lo % 256 * 72057594037927936 % 4294967296) 56 (by omega) (by omega) (by omega) (by omega) (by omega) (by omega) (by omega)
  have t1 : IntKind.u64.wrap (Int.tdiv (hi * 72057594037927936 + lo / 256) 2147483648) = (hi * 72057594037927936 + lo / 256) / 2147483648 := by
    rw [Int.tdiv_eq_ediv_of_nonneg (by omega), wrapU]; omega
  have t2 : IntKind.u64.wrap (hi * 72057594037927936 + lo / 256 - IntKind.u64.wrap ((hi * 72057594037927936 + lo / 256) / 2147483648 * 2147483648)) = (hi * 72057594037927936 + lo / 256) % 2147483648 := by
    simp only [wrapU]; omega
  have w1 : IntKind.u64.wrap 56 = 56 := by decide +kernel
  have w2 : IntKind.u64.wrap (64 - 56) = 8 := by decide +kernel
  have w3 : (9223372036854775808 : Int) / 4294967296 = 2147483648 := by decide +kernel
  unfold bits_Div64.f
  refine (if_neg (by omega)).trans ((if_neg (by omega)).trans ((if_neg (by omega)).trans ?_))
  rw [z, Option.bind_some, w1, w2, e1, e2, e3, e4, e5, e6, e7, w3, t1, t2]
  refine (if_pos (by omega)).trans ((if_pos (by omega)).trans ((if_neg (by omega)).trans (c.trans ?_)))
  have r1 : 2 * (hi * 72057594037927936 + lo / 256) + lo % 256 * 72057594037927936 / 4294967296 / 2147483648 = (hi * 18446744073709551616 + lo) / 128 := by omega
  have r2 : shr .u64 (lo % 256 * 72057594037927936 / 4294967296 % 2147483648 * 4294967296 + lo % 256 * 72057594037927936 % 4294967296) 56 = lo % 128 := by
    show (lo % 256 * 72057594037927936 / 4294967296 % 2147483648 * 4294967296 + lo % 256 * 72057594037927936 % 4294967296) / 72057594037927936 = _
    omega
  rw [r1, r2]
theorem div64_8 (K : Nat) (hi lo : Int) (h0 : 0 < hi) (h1 : hi < 256) (l0 : 0 ≤ lo) (l1 : lo < 18446744073709551616) :
    bits_Div64.f (K + 1 + 1 + 1 + 1 + 1) hi lo 256 = some ((hi * 18446744073709551616 + lo) / 256, lo % 256) := by
  have z : bits_LeadingZeros64.f 256 = some 55 := by decide +kernel
  have e1 : shl .u64 256 55 = 9223372036854775808 := by decide +kernel
  have e2 : Go.bits .and .u64 9223372036854775808 4294967295 = 0 := by decide +kernel
  have e3 : shl .u64 hi 55 = hi * 36028797018963968 := by
    show IntKind.u64.wrap (hi * 36028797018963968) = _
    rw [wrapU]; omega
  have e4 : shr .u64 lo 9 = lo / 512 := rfl
  have e5 : Go.bits .or .u64 (hi * 36028797018963968) (lo / 512) = hi * 36028797018963968 + lo / 512 := by
    rw [u64_or (hi * 36028797018963968) (lo / 512) (by omega) (by omega) (by omega) (by omega), Nat.or_comm]
    have : (hi * 36028797018963968).toNat = hi.toNat * 2 ^ 55 := by
      rw [Int.toNat_mul (by omega) (by omega)]; rfl
    rw [this, or_highR _ _ 55 (by omega)]
    omega
  have e6 : shl .u64 lo 55 = lo % 512 * 36028797018963968 := by
    show IntKind.u64.wrap (lo * 36028797018963968) = _
    rw [wrapU]; omega
  have e7 : Go.bits .and .u64 (lo % 512 * 36028797018963968) 4294967295 = (lo % 512 * 36028797018963968) % 4294967296 := by
    rw [u64_and _ 4294967295 (by omega) (by omega) (by omega) (by omega), show ((4294967295 : Int).toNat) = 2 ^ 32 - 1 from rfl, Nat.and_two_pow_sub_one_eq_mod]
    omega
  have c := core64 K (hi * 36028797018963968 + lo / 512) (lo % 512 * 36028797018963968 / 4294967296) (lo % 512 * 36028797018963968 % 4294967296) 55 (by omega) (by omega) (by omega) (by omega) (by omega) (by omega) (by omega)
  have t1 : IntKind.u64.wrap (Int.tdiv (hi * 36028797018963968 + lo / 512) 2147483648) = (hi * 36028797018963968 + lo / 512) / 2147483648 := by
    rw [Int.tdiv_eq_ediv_of_nonneg (by omega), wrapU]; omega
  have t2 : IntKind.u64.wrap (hi * 36028797018963968 + lo / 512 - IntKind.u64.wrap ((hi * 36028797018963968 + lo / 512) / 2147483648 * 2147483648)) = (hi * 36028797018963968 + lo / 512) % 2147483648 := by
    simp only [wrapU]; omega
  have w1 : IntKind.u64.wrap 55 = 55 := by decide +kernel
  have w2 : IntKind.u64.wrap (64 - 55) = 9 := by decide +kernel
  have w3 : (9223372036854775808 : Int) / 4294967296 = 2147483648 := by decide +kernel
  unfold bits_Div64.f
  refine (if_neg (by omega)).trans ((if_neg (by omega)).trans ((if_neg (by omega)).trans ?_))
  rw [z, Option.bind_some, w1, w2, e1, e2, e3, e4, e5, e6, e7, w3, t1, t2]
  refine (if_pos (by omega)).trans ((if_pos (by omega)).trans ((if_neg (by omega)).trans (c.trans ?_)))
  have r1 : 2 * (hi * 36028797018963968 + lo / 512) + lo % 512 * 36028797018963968 / 4294967296 / 2147483648 = (hi * 18446744073709551616 + lo) / 256 := by omega
  have r2 : shr .u64 (lo % 512 * 36028797018963968 / 4294967296 % 2147483648 * 4294967296 + lo % 512 * 36028797018963968 % 4294967296) 55 = lo % 256 := by
    show (lo % 512 * 36028797018963968 / 4294967296 % 2147483648 * 4294967296 + lo % 512 * 36028797018963968 % 4294967296) / 36028797018963968 = _
    omega
  rw [r1, r2]
theorem div64_9 (K : Nat) (hi lo : Int) (h0 : 0 < hi) (h1 : hi < 512) (l0 : 0 ≤ lo) (l1 : lo < 18446744073709551616) :
    bits_Div64.f (K + 1 + 1 + 1 + 1 + 1) hi lo 512 = some ((hi * 18446744073709551616 + lo) / 512, lo % 512) := by
  have z : bits_LeadingZeros64.f 512 = some 54 := by decide +kernel
  have e1 : shl .u64 512 54 = 9223372036854775808 := by decide +kernel
  have e2 : Go.bits .and .u64 9223372036854775808 4294967295 = 0 := by decide +kernel
  have e3 : shl .u64 hi 54 = hi * 18014398509481984 := by
    show IntKind.u64.wrap (hi * 18014398509481984) = _
    rw [wrapU]; omega
  have e4 : shr .u64 lo 10 = lo / 1024 := rfl
  have e5 : Go.bits .or .u64 (hi * 18014398509481984) (lo / 1024) = hi * 18014398509481984 + lo / 1024 := by
    rw [u64_or (hi * 18014398509481984) (lo / 1024) (by omega) (by omega) (by omega) (by omega), Nat.or_comm]
    have : (hi * 18014398509481984).toNat = hi.toNat * 2 ^ 54 := by
      rw [Int.toNat_mul (by omega) (by omega)]; rfl
    rw [this, or_highR _ _ 54 (by omega)]
    omega
  have e6 : shl .u64 lo 54 = lo % 1024 * 18014398509481984 := by
    show IntKind.u64.wrap (lo * 18014398509481984) = _
    rw [wrapU]; omega
  have e7 : Go.bits .and .u64 (lo % 1024 * 18014398509481984) 4294967295 = (lo % 1024 * 18014398509481984) % 4294967296 := by
    rw [u64_and _ 4294967295 (by omega) (by omega) (by omega) (by omega), show ((4294967295 : Int).toNat) = 2 ^ 32 - 1 from rfl, Nat.and_two_pow_sub_one_eq_mod]
    omega
  have c := core64 K (hi * 18014398509481984 + lo / 1024) (lo % 1024 * 18014398509481984 / 4294967296) (lo % 1024 * 18014398509481984 % 4294967296) 54 (by omega) (by omega) (by omega) (by omega) (by omega) (by omega) (by omega)
  have t1 : IntKind.u64.wrap (Int.tdiv (hi * 18014398509481984 + lo / 1024) 2147483648) = (hi * 18014398509481984 + lo / 1024) / 2147483648 := by
    rw [Int.tdiv_eq_ediv_of_nonneg (by omega), wrapU]; omega
  have t2 : IntKind.u64.wrap (hi * 18014398509481984 + lo / 1024 - IntKind.u64.wrap ((hi * 18014398509481984 + lo / 1024) / 2147483648 * 2147483648)) = (hi * 18014398509481984 + lo / 1024) % 2147483648 := by
    simp only [wrapU]; omega
  have w1 : IntKind.u64.wrap 54 = 54 := by decide +kernel
  have w2 : IntKind.u64.wrap (64 - 54) = 10 := by decide +kernel
  have w3 : (9223372036854775808 : Int) / 4294967296 = 2147483648 := by decide +kernel
  unfold bits_Div64.f
  refine (if_neg (by omega)).trans ((if_neg (by omega)).trans ((if_neg (by omega)).trans ?_))
  rw [z, Option.bind_some, w1, w2, e1, e2, e3, e4, e5, e6, e7, w3, t1, t2]
  refine (if_pos (by omega)).trans ((if_pos (by omega)).trans ((if_neg (by omega)).trans (c.trans ?_)))
  have r1 : 2 * (hi * 18014398509481984 + lo / 1024) + lo % 1024 * 18014398509481984 / 4294967296 / 2147483648 = (hi * 18446744073709551616 + lo) / 512 := by omega
  have r2 : shr .u64 (lo % 1024 * 18014398509481984 / 4294967296 % 2147483648 * 4294967296 + lo % 1024 * 18014398509481984 % 4294967296) 54 = lo % 512 := by
    show (lo % 1024 * 18014398509481984 / 4294967296 % 2147483648 * 4294967296 + lo % 1024 * 18014398509481984 % 4294967296) / 18014398509481984 = _
    omega
  rw [r1, r2]
theorem div64_10 (K : Nat) (hi lo : Int) (h0 : 0 < hi) (h1 : hi < 1024) (l0 : 0 ≤ lo) (l1 : lo < 18446744073709551616) :
    bits_Div64.f (K + 1 + 1 + 1 + 1 + 1) hi lo 1024 = some ((hi * 18446744073709551616 + lo) / 1024, lo % 1024) := by
  have z : bits_LeadingZeros64.f 1024 = some 53 := by decide +kernel
  have e1 : shl .u64 1024 53 = 9223372036854775808 := by decide +kernel
  have e2 : Go.bits .and .u64 9223372036854775808 4294967295 = 0 := by decide +kernel
  have e3 : shl .u64 hi 53 = hi * 9007199254740992 := by
    show IntKind.u64.wrap (hi * 9007199254740992) = _
    rw [wrapU]; omega
  have e4 : shr .u64 lo 11 = lo / 2048 := rfl
  have e5 : Go.bits .or .u64 (hi * 9007199254740992) (lo / 2048) = hi * 9007199254740992 + lo / 2048 := by
    rw [u64_or (hi * 9007199254740992) (lo / 2048) (by omega) (by omega) (by omega) (by omega), Nat.or_comm]
    have : (hi * 9007199254740992).toNat = hi.toNat * 2 ^ 53 := by
      rw [Int.toNat_mul (by omega) (by omega)]; rfl
    rw [this, or_highR _ _ 53 (by omega)]
    omega
  have e6 : shl .u64 lo 53 = lo % 2048 * 9007199254740992 := by
    show IntKind.u64.wrap (lo * 9007199254740992) = _
    rw [wrapU]; omega
  have e7 : Go.bits .and .u64 (lo % 2048 * 9007199254740992) 4294967295 = (lo % 2048 * 9007199254740992) % 4294967296 := by
    rw [u64_and _ 4294967295 (by omega) (by omega) (by omega) (by omega), show ((4294967295 : Int).toNat) = 2 ^ 32 - 1 from rfl, Nat.and_two_pow_sub_one_eq_mod]
    omega
  have c := core64 K (hi * 9007199254740992 + lo / 2048) (lo % 2048 * 9007199254740992 / 4294967296) (lo % 2048 * 9007199254740992 % 4294967296) 53 (by omega) (by omega) (by omega) (by omega) (by omega) (by omega) (by omega)
  have t1 : IntKind.u64.wrap (Int.tdiv (hi * 9007199254740992 + lo / 2048) 2147483648) = (hi * 9007199254740992 + lo / 2048) / 2147483648 := by
    rw [Int.tdiv_eq_ediv_of_nonneg (by omega), wrapU]; omega
  have t2 : IntKind.u64.wrap (hi * 9007199254740992 + lo / 2048 - IntKind.u64.wrap ((hi * 9007199254740992 + lo / 2048) / 2147483648 * 2147483648)) = (hi * 9007199254740992 + lo / 2048) % 2147483648 := by
    simp only [wrapU]; omega
  have w1 : IntKind.u64.wrap 53 = 53 := by decide +kernel
  have w2 : IntKind.u64.wrap (64 - 53) = 11 := by decide +kernel
  have w3 : (9223372036854775808 : Int) / 4294967296 = 2147483648 := by decide +kernel
  unfold bits_Div64.f
  refine (if_neg (by omega)).trans ((if_neg (by omega)).trans ((if_neg (by omega)).trans ?_))
  rw [z, Option.bind_some, w1, w2, e1, e2, e3, e4, e5, e6, e7, w3, t1, t2]
  refine (if_pos (by omega)).trans ((if_pos (by omega)).trans ((if_neg (by omega)).trans (c.trans ?_)))
  have r1 : 2 * (hi * 9007199254740992 + lo / 2048) + lo % 2048 * 9007199254740992 / 4294967296 / 2147483648 = (hi * 18446744073709551616 + lo) / 1024 := by omega
  have r2 : shr .u64 (lo % 2048 * 9007199254740992 / 4294967296 % 2147483648 * 4294967296 + lo % 2048 * 9007199254740992 % 4294967296) 53 = lo % 1024 := by
    show (lo % 2048 * 9007199254740992 / 4294967296 % 2147483648 * 4294967296 + lo % 2048 * 9007199254740992 % 4294967296) / 9007199254740992 = _
    omega
  rw [r1, r2]
theorem div64_11 (K : Nat) (hi lo : Int) (h0 : 0 < hi) (h1 : hi < 2048) (l0 : 0 ≤ lo) (l1 : lo < 18446744073709551616) :
    bits_Div64.f (K + 1 + 1 + 1 + 1 + 1) hi lo 2048 = some ((hi * 18446744073709551616 + lo) / 2048, lo % 2048) := by
  have z : bits_LeadingZeros64.f 2048 = some 52 := by decide +kernel
  have e1 : shl .u64 2048 52 = 9223372036854775808 := by decide +kernel
  have e2 : Go.bits .and .u64 9223372036854775808 4294967295 = 0 := by decide +kernel
  have e3 : shl .u64 hi 52 = hi * 4503599627370496 := by
    show IntKind.u64.wrap (hi * 4503599627370496) = _
    rw [wrapU]; omega
  have e4 : shr .u64 lo 12 = lo / 4096 := rfl
  have e5 : Go.bits .or .u64 (hi * 4503599627370496) (lo / 4096) = hi * 4503599627370496 + lo / 4096 := by
    rw [u64_or (hi * 4503599627370496) (lo / 4096) (by omega) (by omega) (by omega) (by omega), Nat.or_comm]
    have : (hi * 4503599627370496).toNat = hi.toNat * 2 ^ 52 := by
      rw [Int.toNat_mul (by omega) (by omega)]; rfl
    rw [this, or_highR _ _ 52 (by omega)]
    omega
  have e6 : shl .u64 lo 52 = lo % 4096 * 4503599627370496 := by
    show IntKind.u64.wrap (lo * 4503599627370496) = _
    rw [wrapU]; omega
  have e7 : Go.bits .and .u64 (lo % 4096 * 4503599627370496) 4294967295 = (lo % 4096 * 4503599627370496) % 4294967296 := by
    rw [u64_and _ 4294967295 (by omega) (by omega) (by omega) (by omega), show ((4294967295 : Int).toNat) = 2 ^ 32 - 1 from rfl, Nat.and_two_pow_sub_one_eq_mod]
    omega
  have c := core64 K (hi * 4503599627370496 + lo / 4096) (lo % 4096 * 4503599627370496 / 4294967296) (lo % 4096 * 4503599627370496 % 4294967296) 52 (by omega) (by omega) (by omega) (by omega) (by omega) (by omega) (by omega)
  have t1 : IntKind.u64.wrap (Int.tdiv (hi * 4503599627370496 + lo / 4096) 2147483648) = (hi * 4503599627370496 + lo / 4096) / 2147483648 := by
    rw [Int.tdiv_eq_ediv_of_nonneg (by omega), wrapU]; omega
  have t2 : IntKind.u64.wrap (hi * 4503599627370496 + lo / 4096 - IntKind.u64.wrap ((hi * 4503599627370496 + lo / 4096) / 2147483648 * 2147483648)) = (hi * 4503599627370496 + lo / 4096) % 2147483648 := by
    simp only [wrapU]; omega
  have w1 : IntKind.u64.wrap 52 = 52 := by decide +kernel
  have w2 : IntKind.u64.wrap (64 - 52) = 12 := by decide +kernel
  have w3 : (9223372036854775808 : Int) / 4294967296 = 2147483648 := by decide +kernel
  unfold bits_Div64.f
  refine (if_neg (by omega)).trans ((if_neg (by omega)).trans ((if_neg (by omega)).trans ?_))
  rw [z, Option.bind_some, w1, w2, e1, e2, e3, e4, e5, e6, e7, w3, t1, t2]
  refine (if_pos (by omega)).trans ((if_pos (by omega)).trans ((if_neg (by omega)).trans (c.trans ?_)))
  have r1 : 2 * (hi * 4503599627370496 + lo / 4096) + lo % 4096 * 4503599627370496 / 4294967296 / 2147483648 = (hi * 18446744073709551616 + lo) / 2048 := by omega
  have r2 : shr .u64 (lo % 4096 * 4503599627370496 / 4294967296 % 2147483648 * 4294967296 + lo % 4096 * 4503599627370496 % 4294967296) 52 = lo % 2048 := by
    show (lo % 4096 * 4503599627370496 / 4294967296 % 2147483648 * 4294967296 + lo % 4096 * 4503599627370496 % 4294967296) / 4503599627370496 = _
    omega
  rw [r1, r2]
theorem div64_12 (K : Nat) (hi lo : Int) (h0 : 0 < hi) (h1 : hi < 4096) (l0 : 0 ≤ lo) (l1 : lo < 18446744073709551616) :
    bits_Div64.f (K + 1 + 1 + 1 + 1 + 1) hi lo 4096 = some ((hi * 18446744073709551616 + lo) / 4096, lo % 4096) := by
  have z : bits_LeadingZeros64.f 4096 = some 51 := by decide +kernel
  have e1 : shl .u64 4096 51 = 9223372036854775808 := by decide +kernel
  have e2 : Go.bits .and .u64 9223372036854775808 4294967295 = 0 := by decide +kernel
  have e3 : shl .u64 hi 51 = hi * 2251799813685248 := by
    show IntKind.u64.wrap (hi * 2251799813685248) = _
    rw [wrapU]; omega
  have e4 : shr .u64 lo 13 = lo / 8192 := rfl
  have e5 : Go.bits .or .u64 (hi * 2251799813685248) (lo / 8192) = hi * 2251799813685248 + lo / 8192 := by
    rw [u64_or (hi * 2251799813685248) (lo / 8192) (by omega) (by omega) (by omega) (by omega), Nat.or_comm]
    have : (hi * 2251799813685248).toNat = hi.toNat * 2 ^ 51 := by
      rw [Int.toNat_mul (by omega) (by omega)]; rfl
    rw [this, or_highR _ _ 51 (by omega)]
    omega
  have e6 : shl .u64 lo 51 = lo % 8192 * 2251799813685248 := by
    show IntKind.u64.wrap (lo * 2251799813685248) = _
    rw [wrapU]; omega
  have e7 : Go.bits .and .u64 (lo % 8192 * 2251799813685248) 4294967295 = (lo % 8192 * 2251799813685248) % 4294967296 := by
    rw [u64_and _ 4294967295 (by omega) (by omega) (by omega) (by omega), show ((4294967295 : Int).toNat) = 2 ^ 32 - 1 from rfl, Nat.and_two_pow_sub_one_eq_mod]
    omega
  have c := core64 K (hi * 2251799813685248 + lo / 8192) (lo % 8192 * 2251799813685248 / 4294967296) (lo % 8192 * 2251799813685248 % 4294967296) 51 (by omega) (by omega) (by omega) (by omega) (by omega) (by omega) (by omega)
  have t1 : IntKind.u64.wrap (Int.tdiv (hi * 2251799813685248 + lo / 8192) 2147483648) = (hi * 2251799813685248 + lo / 8192) / 2147483648 := by
    rw [Int.tdiv_eq_ediv_of_nonneg (by omega), wrapU]; omega
  have t2 : IntKind.u64.wrap (hi * 2251799813685248 + lo / 8192 - IntKind.u64.wrap ((hi * 2251799813685248 + lo / 8192) / 2147483648 * 2147483648)) = (hi * 2251799813685248 + lo / 8192) % 2147483648 := by
    simp only [wrapU]; omega
  have w1 : IntKind.u64.wrap 51 = 51 := by decide +kernel
  have w2 : IntKind.u64.wrap (64 - 51) = 13 := by decide +kernel
  have w3 : (9223372036854775808 : Int) / 4294967296 = 2147483648 := by decide +kernel
  unfold bits_Div64.f
  refine (if_neg (by omega)).trans ((if_neg (by omega)).trans ((if_neg (by omega)).trans ?_))
  rw [z, Option.bind_some, w1, w2, e1, e2, e3, e4, e5, e6, e7, w3, t1, t2]
  refine (if_pos (by omega)).trans ((if_pos (by omega)).trans ((if_neg (by omega)).trans (c.trans ?_)))
  have r1 : 2 * (hi * 2251799813685248 + lo / 8192) + lo % 8192 * 2251799813685248 / 4294967296 / 2147483648 = (hi * 18446744073709551616 + lo) / 4096 := by omega
  have r2 : shr .u64 (lo % 8192 * 2251799813685248 / 4294967296 % 2147483648 * 4294967296 + lo % 8192 * 2251799813685248 % 4294967296) 51 = lo % 4096 := by
    show (lo % 8192 * 2251799813685248 / 4294967296 % 2147483648 * 4294967296 + lo % 8192 * 2251799813685248 % 4294967296) / 2251799813685248 = _
    omega
  rw [r1, r2]
theorem div64_13 (K : Nat) (hi lo : Int) (h0 : 0 < hi) (h1 : hi < 8192) (l0 : 0 ≤ lo) (l1 : lo < 18446744073709551616) :
    bits_Div64.f (K + 1 + 1 + 1 + 1 + 1) hi lo 8192 = some ((hi * 18446744073709551616 + lo) / 8192, lo % 8192) := by
  have z : bits_LeadingZeros64.f 8192 = some 50 := by decide +kernel
  have e1 : shl .u64 8192 50 = 9223372036854775808 := by decide +kernel
  have e2 : Go.bits .and .u64 9223372036854775808 4294967295 = 0 := by decide +kernel
  have e3 : shl .u64 hi 50 = hi * 1125899906842624 := by
    show IntKind.u64.wrap (hi * 1125899906842624) = _
    rw [wrapU]; omega
  have e4 : shr .u64 lo 14 = lo / 16384 := rfl
  have e5 : Go.bits .or .u64 (hi * 1125899906842624) (lo / 16384) = hi * 1125899906842624 + lo / 16384 := by
    rw [u64_or (hi * 1125899906842624) (lo / 16384) (by omega) (by omega) (by omega) (by omega), Nat.or_comm]
    have : (hi * 1125899906842624).toNat = hi.toNat * 2 ^ 50 := by
      rw [Int.toNat_mul (by omega) (by omega)]; rfl
    rw [this, or_highR _ _ 50 (by omega)]
    omega
  have e6 : shl .u64 lo 50 = lo % 16384 * 1125899906842624 := by
    show IntKind.u64.wrap (lo * 1125899906842624) = _
    rw [wrapU]; omega
  have e7 : Go.bits .and .u64 (lo % 16384 * 1125899906842624) 4294967295 = (lo % 16384 * 1125899906842624) % 4294967296 := by
    rw [u64_and _ 4294967295 (by omega) (by omega) (by omega) (by omega), show ((4294967295 : Int).toNat) = 2 ^ 32 - 1 from rfl, Nat.and_two_pow_sub_one_eq_mod]
    omega
  have c := core64 K (hi * 1125899906842624 + lo / 16384) (lo % 16384 * 1125899906842624 / 4294967296) (lo % 16384 * 1125899906842624 % 4294967296) 50 (by omega) (by omega) (by omega) (by omega) (by omega) (by omega) (by omega)
  have t1 : IntKind.u64.wrap (Int.tdiv (hi * 1125899906842624 + lo / 16384) 2147483648) = (hi * 1125899906842624 + lo / 16384) / 2147483648 := by
    rw [Int.tdiv_eq_ediv_of_nonneg (by omega), wrapU]; omega
  have t2 : IntKind.u64.wrap (hi * 1125899906842624 + lo / 16384 - IntKind.u64.wrap ((hi * 1125899906842624 + lo / 16384) / 2147483648 * 2147483648)) = (hi * 1125899906842624 + lo / 16384) % 2147483648 := by
    simp only [wrapU]; omega
  have w1 : IntKind.u64.wrap 50 = 50 := by decide +kernel
  have w2 : IntKind.u64.wrap (64 - 50) = 14 := by decide +kernel
  have w3 : (9223372036854775808 : Int) / 4294967296 = 2147483648 := by decide +kernel
  unfold bits_Div64.f
  refine (if_neg (by omega)).trans ((if_neg (by omega)).trans ((if_neg (by omega)).trans ?_))
  rw [z, Option.bind_some, w1, w2, e1, e2, e3, e4, e5, e6, e7, w3, t1, t2]
  refine (if_pos (by omega)).trans ((if_pos (by omega)).trans ((if_neg (by omega)).trans (c.trans ?_)))
  have r1 : 2 * (hi * 1125899906842624 + lo / 16384) + lo % 16384 * 1125899906842624 / 4294967296 / 2147483648 = (hi * 18446744073709551616 + lo) / 8192 := by omega
  have r2 : shr .u64 (lo % 16384 * 1125899906842624 / 4294967296 % 2147483648 * 4294967296 + lo % 16384 * 1125899906842624 % 4294967296) 50 = lo % 8192 := by
    show (lo % 16384 * 1125899906842624 / 4294967296 % 2147483648 * 4294967296 + lo % 16384 * 1125899906842624 % 4294967296) / 1125899906842624 = _
    omega
  rw [r1, r2]
theorem div64_14 (K : Nat) (hi lo : Int) (h0 : 0 < hi) (h1 : hi < 16384) (l0 : 0 ≤ lo) (l1 : lo < 18446744073709551616) :
    bits_Div64.f (K + 1 + 1 + 1 + 1 + 1) hi lo 16384 = some ((hi * 18446744073709551616 + lo) / 16384, lo % 16384) := by
  have z : bits_LeadingZeros64.f 16384 = some 49 := by decide +kernel
  have e1 : shl .u64 16384 49 = 9223372036854775808 := by decide +kernel
  have e2 : Go.bits .and .u64 9223372036854775808 4294967295 = 0 := by decide +kernel
  have e3 : shl .u64 hi 49 = hi * 562949953421312 := by
    show IntKind.u64.wrap (hi * 562949953421312) = _
    rw [wrapU]; omega
  have e4 : shr .u64 lo 15 = lo / 32768 := rfl
  have e5 : Go.bits .or .u64 (hi * 562949953421312) (lo / 32768) = hi * 562949953421312 + lo / 32768 := by
    rw [u64_or (hi * 562949953421312) (lo / 32768) (by omega) (by omega) (by omega) (by omega), Nat.or_comm]
    have : (hi * 562949953421312).toNat = hi.toNat * 2 ^ 49 := by
      rw [Int.toNat_mul (by omega) (by omega)]; rfl
    rw [this, or_highR _ _ 49 (by omega)]
    omega
  have e6 : shl .u64 lo 49 = lo % 32768 * 562949953421312 := by
    show IntKind.u64.wrap (lo * 562949953421312) = _
    rw [wrapU]; omega
  have e7 : Go.bits .and .u64 (lo % 32768 * 562949953421312) 4294967295 = (lo % 32768 * 562949953421312) % 4294967296 := by
    rw [u64_and _ 4294967295 (by omega) (by omega) (by omega) (by omega), show ((4294967295 : Int).toNat) = 2 ^ 32 - 1 from rfl, Nat.and_two_pow_sub_one_eq_mod]
    omega
  have c := core64 K (hi * 562949953421312 + lo / 32768) (lo % 32768 * 562949953421312 / 4294967296) (lo % 32768 * 562949953421312 % 4294967296) 49 (by omega) (by omega) (by omega) (by omega) (by omega) (by omega) (by omega)
  have t1 : IntKind.u64.wrap (Int.tdiv (hi * 562949953421312 + lo / 32768) 2147483648) = (hi * 562949953421312 + lo / 32768) / 2147483648 := by
    rw [Int.tdiv_eq_ediv_of_nonneg (by omega), wrapU]; omega
  have t2 : IntKind.u64.wrap (hi * 562949953421312 + lo / 32768 - IntKind.u64.wrap ((hi * 562949953421312 + lo / 32768) / 2147483648 * 2147483648)) = (hi * 562949953421312 + lo / 32768) % 2147483648 := by
    simp only [wrapU]; omega
  have w1 : IntKind.u64.wrap 49 = 49 := by decide +kernel
  have w2 : IntKind.u64.wrap (64 - 49) = 15 := by decide +kernel
  have w3 : (9223372036854775808 : Int) / 4294967296 = 2147483648 := by decide +kernel
  unfold bits_Div64.f
  refine (if_neg (by omega)).trans ((if_neg (by omega)).trans ((if_neg (by omega)).trans ?_))
  rw [z, Option.bind_some, w1, w2, e1, e2, e3, e4, e5, e6, e7, w3, t1, t2]
  refine (if_pos (by omega)).trans ((if_pos (by omega)).trans ((if_neg (by omega)).trans (c.trans ?_)))
  have r1 : 2 * (hi * 562949953421312 + lo / 32768) + lo % 32768 * 562949953421312 / 4294967296 / 2147483648 = (hi * 18446744073709551616 + lo) / 16384 := by omega
  have r2 : shr .u64 (lo % 32768 * 562949953421312 / 4294967296 % 2147483648 * 4294967296 + lo % 32768 * 562949953421312 % 4294967296) 49 = lo % 16384 := by
    show (lo % 32768 * 562949953421312 / 4294967296 % 2147483648 * 4294967296 + lo % 32768 * 562949953421312 % 4294967296) / 562949953421312 = _
    omega
  rw [r1, r2]
theorem div64_15 (K : Nat) (hi lo : Int) (h0 : 0 < hi) (h1 : hi < 32768) (l0 : 0 ≤ lo) (l1 : lo < 18446744073709551616) :
    bits_Div64.f (K + 1 + 1 + 1 + 1 + 1) hi lo 32768 = some ((hi * 18446744073709551616 + lo) / 32768, lo % 32768) := by
  have z : bits_LeadingZeros64.f 32768 = some 48 := by decide +kernel
  have e1 : shl .u64 32768 48 = 9223372036854775808 := by decide +kernel
  have e2 : Go.bits .and .u64 9223372036854775808 4294967295 = 0 := by decide +kernel
  have e3 : shl .u64 hi 48 = hi * 281474976710656 := by
    show IntKind.u64.wrap (hi * 281474976710656) = _
    rw [wrapU]; omega
  have e4 : shr .u64 lo 16 = lo / 65536 := rfl
  have e5 : Go.bits .or .u64 (hi * 281474976710656) (lo / 65536) = hi * 281474976710656 + lo / 65536 := by
    rw [u64_or (hi * 281474976710656) (lo / 65536) (by omega) (by omega) (by omega) (by omega), Nat.or_comm]
    have : (hi * 281474976710656).toNat = hi.toNat * 2 ^ 48 := by
      rw [Int.toNat_mul (by omega) (by omega)]; rfl
    rw [this, or_highR _ _ 48 (by omega)]
    omega
  have e6 : shl .u64 lo 48 = lo % 65536 * 281474976710656 := by
    show IntKind.u64.wrap (lo * 281474976710656) = _
    rw [wrapU]; omega
  have e7 : Go.bits .and .u64 (lo % 65536 * 281474976710656) 4294967295 = (lo % 65536 * 281474976710656) % 4294967296 := by
    rw [u64_and _ 4294967295 (by omega) (by omega) (by omega) (by omega), show ((4294967295 : Int).toNat) = 2 ^ 32 - 1 from rfl, Nat.and_two_pow_sub_one_eq_mod]
    omega
  have c := core64 K (hi * 281474976710656 + lo / 65536) (lo % 65536 * 281474976710656 / 4294967296) (lo % 65536 * 281474976710656 % 4294967296) 48 (by omega) (by omega) (by omega) (by omega) (by omega) (by omega) (by omega)
  have t1 : IntKind.u64.wrap (Int.tdiv (hi * 281474976710656 + lo / 65536) 2147483648) = (hi * 281474976710656 + lo / 65536) / 2147483648 := by
    rw [Int.tdiv_eq_ediv_of_nonneg (by omega), wrapU]; omega
  have t2 : IntKind.u64.wrap (hi * 281474976710656 + lo / 65536 - IntKind.u64.wrap ((hi * 281474976710656 + lo / 65536) / 2147483648 * 2147483648)) = (hi * 281474976710656 + lo / 65536) % 2147483648 := by
    simp only [wrapU]; omega
  have w1 : IntKind.u64.wrap 48 = 48 := by decide +kernel
  have w2 : IntKind.u64.wrap (64 - 48) = 16 := by decide +kernel
  have w3 : (9223372036854775808 : Int) / 4294967296 = 2147483648 := by decide +kernel
  unfold bits_Div64.f
  refine (if_neg (by omega)).trans ((if_neg (by omega)).trans ((if_neg (by omega)).trans ?_))
  rw [z, Option.bind_some, w1, w2, e1, e2, e3, e4, e5, e6, e7, w3, t1, t2]
  refine (if_pos (by omega)).trans ((if_pos (by omega)).trans ((if_neg (by omega)).trans (c.trans ?_)))
  have r1 : 2 * (hi * 281474976710656 + lo / 65536) + lo % 65536 * 281474976710656 / 4294967296 / 2147483648 = (hi * 18446744073709551616 + lo) / 32768 := by omega
  have r2 : shr .u64 (lo % 65536 * 281474976710656 / 4294967296 % 2147483648 * 4294967296 + lo % 65536 * 281474976710656 % 4294967296) 48 = lo % 32768 := by
    show (lo % 65536 * 281474976710656 / 4294967296 % 2147483648 * 4294967296 + lo % 65536 * 281474976710656 % 4294967296) / 281474976710656 = _
    omega
  rw [r1, r2]
theorem div64_16 (K : Nat) (hi lo : Int) (h0 : 0 < hi) (h1 : hi < 65536) (l0 : 0 ≤ lo) (l1 : lo < 18446744073709551616) :
    bits_Div64.f (K + 1 + 1 + 1 + 1 + 1) hi lo 65536 = some ((hi * 18446744073709551616 + lo) / 65536, lo % 65536) := by
  have z : bits_LeadingZeros64.f 65536 = some 47 := by decide +kernel
  have e1 : shl .u64 65536 47 = 9223372036854775808 := by decide +kernel
  have e2 : Go.bits .and .u64 9223372036854775808 4294967295 = 0 := by decide +kernel
  have e3 : shl .u64 hi 47 = hi * 140737488355328 := by
    show IntKind.u64.wrap (hi * 140737488355328) = _
    rw [wrapU]; omega
  have e4 : shr .u64 lo 17 = lo / 131072 := rfl
  have e5 : Go.bits .or .u64 (hi * 140737488355328) (lo / 131072) = hi * 140737488355328 + lo / 131072 := by
    rw [u64_or (hi * 140737488355328) (lo / 131072) (by omega) (by omega) (by omega) (by omega), Nat.or_comm]
    have : (hi * 140737488355328).toNat = hi.toNat * 2 ^ 47 := by
      rw [Int.toNat_mul (by omega) (by omega)]; rfl
    rw [this, or_highR _ _ 47 (by omega)]
    omega
  have e6 : shl .u64 lo 47 = lo % 131072 * 140737488355328 := by
    show IntKind.u64.wrap (lo * 140737488355328) = _
    rw [wrapU]; omega
  have e7 : Go.bits .and .u64 (lo % 131072 * 140737488355328) 4294967295 = (lo % 131072 * 140737488355328) % 4294967296 := by
    rw [u64_and _ 4294967295 (by omega) (by omega) (by omega) (by omega), show ((4294967295 : Int).toNat) = 2 ^ 32 - 1 from rfl, Nat.and_two_pow_sub_one_eq_mod]
    omega
  have c := core64 K (hi * 140737488355328 + lo / 131072) (lo % 131072 * 140737488355328 / 4294967296) (lo % 131072 * 140737488355328 % 4294967296) 47 (by omega) (by omega) (by omega) (by omega) (by omega) (by omega) (by omega)
  have t1 : IntKind.u64.wrap (Int.tdiv (hi * 140737488355328 + lo / 131072) 2147483648) = (hi * 140737488355328 + lo / 131072) / 2147483648 := by
    rw [Int.tdiv_eq_ediv_of_nonneg (by omega), wrapU]; omega
  have t2 : IntKind.u64.wrap (hi * 140737488355328 + lo / 131072 - IntKind.u64.wrap ((hi * 140737488355328 + lo / 131072) / 2147483648 * 2147483648)) = (hi * 140737488355328 + lo / 131072) % 2147483648 := by
    simp only [wrapU]; omega
  have w1 : IntKind.u64.wrap 47 = 47 := by decide +kernel
  have w2 : IntKind.u64.wrap (64 - 47) = 17 := by decide +kernel
  have w3 : (9223372036854775808 : Int) / 4294967296 = 2147483648 := by decide +kernel
  unfold bits_Div64.f
  refine (if_neg (by omega)).trans ((if_neg (by omega)).trans ((if_neg (by omega)).trans ?_))
  rw [z, Option.bind_some, w1, w2, e1, e2, e3, e4, e5, e6, e7, w3, t1, t2]
  refine (if_pos (by omega)).trans ((if_pos (by omega)).trans ((if_neg (by omega)).trans (c.trans ?_)))
  have r1 : 2 * (hi * 140737488355328 + lo / 131072) + lo % 131072 * 140737488355328 / 4294967296 / 2147483648 = (hi * 18446744073709551616 + lo) / 65536 := by omega
  have r2 : shr .u64 (lo % 131072 * 140737488355328 / 4294967296 % 2147483648 * 4294967296 + lo % 131072 * 140737488355328 % 4294967296) 47 = lo % 65536 := by
    show (lo % 131072 * 140737488355328 / 4294967296 % 2147483648 * 4294967296 + lo % 131072 * 140737488355328 % 4294967296) / 140737488355328 = _
    omega
  rw [r1, r2]
theorem div64_17 (K : Nat) (hi lo : Int) (h0 : 0 < hi) (h1 : hi < 131072) (l0 : 0 ≤ lo) (l1 : lo < 18446744073709551616) :
    bits_Div64.f (K + 1 + 1 + 1 + 1 + 1) hi lo 131072 = some ((hi * 18446744073709551616 + lo) / 131072, lo % 131072) := by
  have z : bits_LeadingZeros64.f 131072 = some 46 := by decide +kernel
  have e1 : shl .u64 131072 46 = 9223372036854775808 := by decide +kernel
  have e2 : Go.bits .and .u64 9223372036854775808 4294967295 = 0 := by decide +kernel
  have e3 : shl .u64 hi 46 = hi * 70368744177664 := by
    show IntKind.u64.wrap (hi * 70368744177664) = _
    rw [wrapU]; omega
  have e4 : shr .u64 lo 18 = lo / 262144 := rfl
  have e5 : Go.bits .or .u64 (hi * 70368744177664) (lo / 262144) = hi * 70368744177664 + lo / 262144 := by
    rw [u64_or (hi * 70368744177664) (lo / 262144) (by omega) (by omega) (by omega) (by omega), Nat.or_comm]
    have : (hi * 70368744177664).toNat = hi.toNat * 2 ^ 46 := by
      rw [Int.toNat_mul (by omega) (by omega)]; rfl
    rw [this, or_highR _ _ 46 (by omega)]
    omega
  have e6 : shl .u64 lo 46 = lo % 262144 * 70368744177664 := by
    show IntKind.u64.wrap (lo * 70368744177664) = _
    rw [wrapU]; omega
  have e7 : Go.bits .and .u64 (lo % 262144 * 70368744177664) 4294967295 = (lo % 262144 * 70368744177664) % 4294967296 := by
    rw [u64_and _ 4294967295 (by omega) (by omega) (by omega) (by omega), show ((4294967295 : Int).toNat) = 2 ^ 32 - 1 from rfl, Nat.and_two_pow_sub_one_eq_mod]
    omega
  have c := core64 K (hi * 70368744177664 + lo / 262144) (lo % 262144 * 70368744177664 / 4294967296) (lo % 262144 * 70368744177664 % 4294967296) 46 (by omega) (by omega) (by omega) (by omega) (by omega) (by omega) (by omega)
  have t1 : IntKind.u64.wrap (Int.tdiv (hi * 70368744177664 + lo / 262144) 2147483648) = (hi * 70368744177664 + lo / 262144) / 2147483648 := by
    rw [Int.tdiv_eq_ediv_of_nonneg (by omega), wrapU]; omega
  have t2 : IntKind.u64.wrap (hi * 70368744177664 + lo / 262144 - IntKind.u64.wrap ((hi * 70368744177664 + lo / 262144) / 2147483648 * 2147483648)) = (hi * 70368744177664 + lo / 262144) % 2147483648 := by
    simp only [wrapU]; omega
  have w1 : IntKind.u64.wrap 46 = 46 := by decide +kernel
  have w2 : IntKind.u64.wrap (64 - 46) = 18 := by decide +kernel
  have w3 : (9223372036854775808 : Int) / 4294967296 = 2147483648 := by decide +kernel
  unfold bits_Div64.f
  refine (if_neg (by omega)).trans ((if_neg (by omega)).trans ((if_neg (by omega)).trans ?_))
  rw [z, Option.bind_some, w1, w2, e1, e2, e3, e4, e5, e6, e7, w3, t1, t2]
  refine (if_pos (by omega)).trans ((if_pos (by omega)).trans ((if_neg (by omega)).trans (c.trans ?_)))
  have r1 : 2 * (hi * 70368744177664 + lo / 262144) + lo % 262144 * 70368744177664 / 4294967296 / 2147483648 = (hi * 18446744073709551616 + lo) / 131072 := by omega
  have r2 : shr .u64 (lo % 262144 * 70368744177664 / 4294967296 % 2147483648 * 4294967296 + lo % 262144 * 70368744177664 % 4294967296) 46 = lo % 131072 := by
    show (lo % 262144 * 70368744177664 / 4294967296 % 2147483648 * 4294967296 + lo % 262144 * 70368744177664 % 4294967296) / 70368744177664 = _
    omega
  rw [r1, r2]
theorem div64_18 (K : Nat) (hi lo : Int) (h0 : 0 < hi) (h1 : hi < 262144) (l0 : 0 ≤ lo) (l1 : lo < 18446744073709551616) :
    bits_Div64.f (K + 1 + 1 + 1 + 1 + 1) hi lo 262144 = some ((hi * 18446744073709551616 + lo) / 262144, lo % 262144) := by
  have z : bits_LeadingZeros64.f 262144 = some 45 := by decide +kernel
  have e1 : shl .u64 262144 45 = 9223372036854775808 := by decide +kernel
  have e2 : Go.bits .and .u64 9223372036854775808 4294967295 = 0 := by decide +kernel
  have e3 : shl .u64 hi 45 = hi * 35184372088832 := by
    show IntKind.u64.wrap (hi * 35184372088832) = _
    rw [wrapU]; omega
  have e4 : shr .u64 lo 19 = lo / 524288 := rfl
  have e5 : Go.bits .or .u64 (hi * 35184372088832) (lo / 524288) = hi * 35184372088832 + lo / 524288 := by
    rw [u64_or (hi * 35184372088832) (lo / 524288) (by omega) (by omega) (by omega) (by omega), Nat.or_comm]
    have : (hi * 35184372088832).toNat = hi.toNat * 2 ^ 45 := by
      rw [Int.toNat_mul (by omega) (by omega)]; rfl
    rw [this, or_highR _ _ 45 (by omega)]
    omega
  have e6 : shl .u64 lo 45 = lo % 524288 * 35184372088832 := by
    show IntKind.u64.wrap (lo * 35184372088832) = _
    rw [wrapU]; omega
  have e7 : Go.bits .and .u64 (lo % 524288 * 35184372088832) 4294967295 = (lo % 524288 * 35184372088832) % 4294967296 := by
    rw [u64_and _ 4294967295 (by omega) (by omega) (by omega) (by omega), show ((4294967295 : Int).toNat) = 2 ^ 32 - 1 from rfl, Nat.and_two_pow_sub_one_eq_mod]
    omega
  have c := core64 K (hi * 35184372088832 + lo / 524288) (lo % 524288 * 35184372088832 / 4294967296) (lo % 524288 * 35184372088832 % 4294967296) 45 (by omega) (by omega) (by omega) (by omega) (by omega) (by omega) (by omega)
  have t1 : IntKind.u64.wrap (Int.tdiv (hi * 35184372088832 + lo / 524288) 2147483648) = (hi * 35184372088832 + lo / 524288) / 2147483648 := by
    rw [Int.tdiv_eq_ediv_of_nonneg (by omega), wrapU]; omega
  have t2 : IntKind.u64.wrap (hi * 35184372088832 + lo / 524288 - IntKind.u64.wrap ((hi * 35184372088832 + lo / 524288) / 2147483648 * 2147483648)) = (hi * 35184372088832 + lo / 524288) % 2147483648 := by
    simp only [wrapU]; omega
  have w1 : IntKind.u64.wrap 45 = 45 := by decide +kernel
  have w2 : IntKind.u64.wrap (64 - 45) = 19 := by decide +kernel
  have w3 : (9223372036854775808 : Int) / 4294967296 = 2147483648 := by decide +kernel
  unfold bits_Div64.f
  refine (if_neg (by omega)).trans ((if_neg (by omega)).trans ((if_neg (by omega)).trans ?_))
  rw [z, Option.bind_some, w1, w2, e1, e2, e3, e4, e5, e6, e7, w3, t1, t2]
  refine (if_pos (by omega)).trans ((if_pos (by omega)).trans ((if_neg (by omega)).trans (c.trans ?_)))
  have r1 : 2 * (hi * 35184372088832 + lo / 524288) + lo % 524288 * 35184372088832 / 4294967296 / 2147483648 = (hi * 18446744073709551616 + lo) / 262144 := by omega
  have r2 : shr .u64 (lo % 524288 * 35184372088832 / 4294967296 % 2147483648 * 4294967296 + lo % 524288 * 35184372088832 % 4294967296) 45 = lo % 262144 := by
    show (lo % 524288 * 35184372088832 / 4294967296 % 2147483648 * 4294967296 + lo % 524288 * 35184372088832 % 4294967296) / 35184372088832 = _
    omega
  rw [r1, r2]
theorem div64_19 (K : Nat) (hi lo : Int) (h0 : 0 < hi) (h1 : hi < 524288) (l0 : 0 ≤ lo) (l1 : lo < 18446744073709551616) :
    bits_Div64.f (K + 1 + 1 + 1 + 1 + 1) hi lo 524288 = some ((hi * 18446744073709551616 + lo) / 524288, lo % 524288) := by
  have z : bits_LeadingZeros64.f 524288 = some 44 := by decide +kernel
  have e1 : shl .u64 524288 44 = 9223372036854775808 := by decide +kernel
  have e2 : Go.bits .and .u64 9223372036854775808 4294967295 = 0 := by decide +kernel
  have e3 : shl .u64 hi 44 = hi * 17592186044416 := by
    show IntKind.u64.wrap (hi * 17592186044416) = _
    rw [wrapU]; omega
  have e4 : shr .u64 lo 20 = lo / 1048576 := rfl
  have e5 : Go.bits .or .u64 (hi * 17592186044416) (lo / 1048576) = hi * 17592186044416 + lo / 1048576 := by
    rw [u64_or (hi * 17592186044416) (lo / 1048576) (by omega) (by omega) (by omega) (by omega), Nat.or_comm]
    have : (hi * 17592186044416).toNat = hi.toNat * 2 ^ 44 := by
      rw [Int.toNat_mul (by omega) (by omega)]; rfl
    rw [this, or_highR _ _ 44 (by omega)]
    omega
  have e6 : shl .u64 lo 44 = lo % 1048576 * 17592186044416 := by
    show IntKind.u64.wrap (lo * 17592186044416) = _
    rw [wrapU]; omega
  have e7 : Go.bits .and .u64 (lo % 1048576 * 17592186044416) 4294967295 = (lo % 1048576 * 17592186044416) % 4294967296 := by
    rw [u64_and _ 4294967295 (by omega) (by omega) (by omega) (by omega), show ((4294967295 : Int).toNat) = 2 ^ 32 - 1 from rfl, Nat.and_two_pow_sub_one_eq_mod]
    omega
  have c := core64 K (hi * 17592186044416 + lo / 1048576) (lo % 1048576 * 17592186044416 / 4294967296) (lo % 1048576 * 17592186044416 % 4294967296) 44 (by omega) (by omega) (by omega) (by omega) (by omega) (by omega) (by omega)
  have t1 : IntKind.u64.wrap (Int.tdiv (hi * 17592186044416 + lo / 1048576) 2147483648) = (hi * 17592186044416 + lo / 1048576) / 2147483648 := by
    rw [Int.tdiv_eq_ediv_of_nonneg (by omega), wrapU]; omega
  have t2 : IntKind.u64.wrap (hi * 17592186044416 + lo / 1048576 - IntKind.u64.wrap ((hi * 17592186044416 + lo / 1048576) / 2147483648 * 2147483648)) = (hi * 17592186044416 + lo / 1048576) % 2147483648 := by
    simp only [wrapU]; omega
  have w1 : IntKind.u64.wrap 44 = 44 := by decide +kernel
  have w2 : IntKind.u64.wrap (64 - 44) = 20 := by decide +kernel
  have w3 : (9223372036854775808 : Int) / 4294967296 = 2147483648 := by decide +kernel
  unfold bits_Div64.f
  refine (if_neg (by omega)).trans ((if_neg (by omega)).trans ((if_neg (by omega)).trans ?_))
  rw [z, Option.bind_some, w1, w2, e1, e2, e3, e4, e5, e6, e7, w3, t1, t2]
  refine (if_pos (by omega)).trans ((if_pos (by omega)).trans ((if_neg (by omega)).trans (c.trans ?_)))
  have r1 : 2 * (hi * 17592186044416 + lo / 1048576) + lo % 1048576 * 17592186044416 / 4294967296 / 2147483648 = (hi * 18446744073709551616 + lo) / 524288 := by omega
  have r2 : shr .u64 (lo % 1048576 * 17592186044416 / 4294967296 % 2147483648 * 4294967296 + lo % 1048576 * 17592186044416 % 4294967296) 44 = lo % 524288 := by
    show (lo % 1048576 * 17592186044416 / 4294967296 % 2147483648 * 4294967296 + lo % 1048576 * 17592186044416 % 4294967296) / 17592186044416 = _
    omega
  rw [r1, r2]
theorem div64_20 (K : Nat) (hi lo : Int) (h0 : 0 < hi) (h1 : hi < 1048576) (l0 : 0 ≤ lo) (l1 : lo < 18446744073709551616) :
    bits_Div64.f (K + 1 + 1 + 1 + 1 + 1) hi lo 1048576 = some ((hi * 18446744073709551616 + lo) / 1048576, lo % 1048576) := by
  have z : bits_LeadingZeros64.f 1048576 = some 43 := by decide +kernel
  have e1 : shl .u64 1048576 43 = 9223372036854775808 := by decide +kernel
  have e2 : Go.bits .and .u64 9223372036854775808 4294967295 = 0 := by decide +kernel
  have e3 : shl .u64 hi 43 = hi * 8796093022208 := by
    show IntKind.u64.wrap (hi * 8796093022208) = _
    rw [wrapU]; omega
  have e4 : shr .u64 lo 21 = lo / 2097152 := rfl
  have e5 : Go.bits .or .u64 (hi * 8796093022208) (lo / 2097152) = hi * 8796093022208 + lo / 2097152 := by
    rw [u64_or (hi * 8796093022208) (lo / 2097152) (by omega) (by omega) (by omega) (by omega), Nat.or_comm]
    have : (hi * 8796093022208).toNat = hi.toNat * 2 ^ 43 := by
      rw [Int.toNat_mul (by omega) (by omega)]; rfl
    rw [this, or_highR _ _ 43 (by omega)]
    omega
  have e6 : shl .u64 lo 43 = lo % 2097152 * 8796093022208 := by
    show IntKind.u64.wrap (lo * 8796093022208) = _
    rw [wrapU]; omega
  have e7 : Go.bits .and .u64 (lo % 2097152 * 8796093022208) 4294967295 = (lo % 2097152 * 8796093022208) % 4294967296 := by
    rw [u64_and _ 4294967295 (by omega) (by omega) (by omega) (by omega), show ((4294967295 : Int).toNat) = 2 ^ 32 - 1 from rfl, Nat.and_two_pow_sub_one_eq_mod]
    omega
  have c := core64 K (hi * 8796093022208 + lo / 2097152) (lo % 2097152 * 8796093022208 / 4294967296) (lo % 2097152 * 8796093022208 % 4294967296) 43 (by omega) (by omega) (by omega) (by omega) (by omega) (by omega) (by omega)
  have t1 : IntKind.u64.wrap (Int.tdiv (hi * 8796093022208 + lo / 2097152) 2147483648) = (hi * 8796093022208 + lo / 2097152) / 2147483648 := by
    rw [Int.tdiv_eq_ediv_of_nonneg (by omega), wrapU]; omega
  have t2 : IntKind.u64.wrap (hi * 8796093022208 + lo / 2097152 - IntKind.u64.wrap ((hi * 8796093022208 + lo / 2097152) / 2147483648 * 2147483648)) = (hi * 8796093022208 + lo / 2097152) % 2147483648 := by
    simp only [wrapU]; omega
  have w1 : IntKind.u64.wrap 43 = 43 := by decide +kernel
  have w2 : IntKind.u64.wrap (64 - 43) = 21 := by decide +kernel
  have w3 : (9223372036854775808 : Int) / 4294967296 = 2147483648 := by decide +kernel
  unfold bits_Div64.f
  refine (if_neg (by omega)).trans ((if_neg (by omega)).trans ((if_neg (by omega)).trans ?_))
  rw [z, Option.bind_some, w1, w2, e1, e2, e3, e4, e5, e6, e7, w3, t1, t2]
  refine (if_pos (by omega)).trans ((if_pos (by omega)).trans ((if_neg (by omega)).trans (c.trans ?_)))
  have r1 : 2 * (hi * 8796093022208 + lo / 2097152) + lo % 2097152 * 8796093022208 / 4294967296 / 2147483648 = (hi * 18446744073709551616 + lo) / 1048576 := by omega
  have r2 : shr .u64 (lo % 2097152 * 8796093022208 / 4294967296 % 2147483648 * 4294967296 + lo % 2097152 * 8796093022208 % 4294967296) 43 = lo % 1048576 := by
    show (lo % 2097152 * 8796093022208 / 4294967296 % 2147483648 * 4294967296 + lo % 2097152 * 8796093022208 % 4294967296) / 8796093022208 = _
    omega
  rw [r1, r2]
theorem div64_pow (K : Nat) (hi lo : Int) (k : Nat) (hk : k ≤ 20) (h0 : 0 ≤ hi) (h1 : hi < 2 ^ k) (l0 : 0 ≤ lo) (l1 : lo < 18446744073709551616) :
    bits_Div64.f (K + 5) hi lo (2 ^ k) = some ((hi * 18446744073709551616 + lo) / 2 ^ k, lo % 2 ^ k) := by
  by_cases hz : hi = 0
  · subst hz
    rw [Int.zero_mul, Int.zero_add]
    exact hi_none _ lo _ (Int.pow_pos (by omega)) l0 l1
  have h2 : 0 < hi := by omega
  have : k = 0 ∨ k = 1 ∨ k = 2 ∨ k = 3 ∨ k = 4 ∨ k = 5 ∨ k = 6 ∨ k = 7 ∨ k = 8 ∨ k = 9 ∨ k = 10 ∨ k = 11 ∨ k = 12 ∨ k = 13 ∨ k = 14 ∨ k = 15 ∨ k = 16 ∨ k = 17 ∨ k = 18 ∨ k = 19 ∨ k = 20 := by omega
  rcases this with rfl | rfl | rfl | rfl | rfl | rfl | rfl | rfl | rfl | rfl | rfl | rfl | rfl | rfl | rfl | rfl | rfl | rfl | rfl | rfl | rfl
  · exact div64_0 K hi lo h2 h1 l0 l1
  · exact div64_1 K hi lo h2 h1 l0 l1
  · exact div64_2 K hi lo h2 h1 l0 l1
  · exact div64_3 K hi lo h2 h1 l0 l1
  · exact div64_4 K hi lo h2 h1 l0 l1
  · exact div64_5 K hi lo h2 h1 l0 l1
  · exact div64_6 K hi lo h2 h1 l0 l1
  · exact div64_7 K hi lo h2 h1 l0 l1
  · exact div64_8 K hi lo h2 h1 l0 l1
  · exact div64_9 K hi lo h2 h1 l0 l1
  · exact div64_10 K hi lo h2 h1 l0 l1
  · exact div64_11 K hi lo h2 h1 l0 l1
  · exact div64_12 K hi lo h2 h1 l0 l1
  · exact div64_13 K hi lo h2 h1 l0 l1
  · exact div64_14 K hi lo h2 h1 l0 l1
  · exact div64_15 K hi lo h2 h1 l0 l1
  · exact div64_16 K hi lo h2 h1 l0 l1
  · exact div64_17 K hi lo h2 h1 l0 l1
  · exact div64_18 K hi lo h2 h1 l0 l1
  · exact div64_19 K hi lo h2 h1 l0 l1
  · exact div64_20 K hi lo h2 h1 l0 l1
end Go.Proofs.YtpebcphkockkkaaDoor.Hand
