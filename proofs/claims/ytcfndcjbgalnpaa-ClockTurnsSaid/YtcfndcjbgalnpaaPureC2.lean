/-
  ClockSpeeds: of two clocks from one place the faster is never behind. No program; and the law where New refuses.
-/
import Derived.Test.YtcfndcjbgalnpaaClock3
import Derived.Test.YtcfndcjbgalnpaaPLx2
namespace Go.Proofs.Ytcfndcjbgalnpaa.Hand
open Go.RowKit Go.Proofs.YtcfndcjbgalnpaaW.PrintWords Go.Proofs.YtcfndcjbgalnpaaW.PrintLast Go.Proofs.YtcfndcjbgalnpaaW.PrintMore Go.Proofs.Ytcfndcjbgalnpaa.PA Go.Proofs.Ytcfndcjbgalnpaa.PB Go.Proofs.Ytcfndcjbgalnpaa.PC Go.Proofs.Ytcfndcjbgalnpaa.PL

theorem floor_le {T n d n2 d2 : Int} (hT : 0 ≤ T) (hd : 0 < d) (hd2 : 0 < d2) (h : n2 * d ≤ n * d2) : T * n2 / d2 ≤ T * n / d := by
  apply Int.le_ediv_of_mul_le hd
  have h1 : T * n2 / d2 * d2 ≤ T * n2 := Int.ediv_mul_le _ (by omega)
  have h2 : T * n2 / d2 * d2 * d ≤ T * n2 * d := Int.mul_le_mul_of_nonneg_right h1 (by omega)
  have h3 : T * (n2 * d) ≤ T * (n * d2) := Int.mul_le_mul_of_nonneg_left h hT
  have e1 : T * n2 * d = T * (n2 * d) := by rw [Int.mul_assoc]
  have e2 : T * (n * d2) = T * n * d2 := by rw [Int.mul_assoc]
  have e3 : T * n2 / d2 * d2 * d = T * n2 / d2 * d * d2 := by rw [Int.mul_assoc, Int.mul_comm d2 d, ← Int.mul_assoc]
  have h4 : T * n2 / d2 * d * d2 ≤ T * n * d2 := by rw [← e3, ← e2]; rw [e1] at h2; exact Int.le_trans h2 h3
  exact Int.le_of_mul_le_mul_right h4 hd2
theorem far_le {T n d : Int} (hT : 0 ≤ T) (hT2 : T ≤ 268435456) (hd : 0 < d) (hn0 : 0 ≤ n) (hn : n ≤ 1024 * d) : 0 ≤ T * n / d ∧ T * n / d ≤ 274877906944 := by
  refine ⟨Int.ediv_nonneg (Int.mul_nonneg hT hn0) (by omega), ?_⟩
  apply Int.ediv_le_of_le_mul hd
  have h1 : T * n ≤ 268435456 * (1024 * d) := Int.mul_le_mul hT2 hn hn0 (by omega)
  omega
theorem open_at {now p n d t : Int} (h1 : now ≤ t) (hT2 : t - now ≤ 268435456) (hd : 0 < d) (hn0 : 0 ≤ n) (hn : n ≤ 1024 * d) (p1 : p ≤ 1125899906842624) :
    atV now p 0 n d t = (p + (t - now) * n / d, (t - now) * n % d) := by
  have hf := far_le (show 0 ≤ t - now by omega) hT2 hd hn0 hn
  unfold atV
  rw [Int.add_zero]
  by_cases h : t ≤ now
  · obtain rfl : t = now := by omega
    rw [if_pos h, Int.sub_self, Int.zero_mul, Int.zero_ediv, Int.zero_emod, Int.add_zero]
  · rw [if_neg h, if_neg (by omega)]
theorem speeds_l0 {now p n d n2 d2 : Int} (S : Sp n d) (S2 : Sp n2 d2) (hn : n ≤ 1024 * d) (hn2 : n2 ≤ 1024 * d2) (hc : n2 * d ≤ n * d2) (h0 : 0 ≤ now) (h1 : now ≤ 1125899906842624) (p0 : 0 ≤ p) (p1 : p ≤ 1125899906842624)
    (l : List Int) (hl : l.length ≤ 200) (hw : W64 l) : ∀ (m k i : Nat) (t : Int), i + m = l.length → now ≤ t → t - now ≤ 1048576 * i →
    tiklaw22_ClockSpeeds.l0 (k + m + 1) now p l t (i : Int) n d t (atV now p 0 n d t).1 (atV now p 0 n d t).2 n d t (atV now p 0 n2 d2 t).1 (atV now p 0 n2 d2 t).2 n2 d2 = some true := by
  have T : St now p 0 d := ⟨h0, by omega, p0, by omega, by omega, by have := S.d1; omega⟩
  have T2 : St now p 0 d2 := ⟨h0, by omega, p0, by omega, by omega, by have := S2.d1; omega⟩
  have hd : 0 < d := by have := S.d1; omega
  have hd2 : 0 < d2 := by have := S2.d1; omega
  intro m
  induction m with
  | zero =>
    intro k i t hi g1 g2
    have ht : U64 t := ⟨by omega, by omega⟩
    have A := (atV_inv S T ht).1
    rw [show k + 0 + 1 = k + 1 by omega, tiklaw22_ClockSpeeds.l0]
    refine (if_neg (by omega)).trans ?_
    have o := open_at g1 (by omega) hd S.n0 hn p1
    have hf := far_le (show 0 ≤ t - now by omega) (by omega) hd S.n0 hn
    have sv : scaleV (t - now) 0 n d = ((t - now) * n / d, (t - now) * n % d, 0) := by
      unfold scaleV
      rw [Int.add_zero, if_neg (by omega)]
    have ew : IntKind.u64.wrap (t - now) = t - now := IntWalk.u64_in _ (by omega)
    rw [ew, scale_f S ⟨by omega, by omega⟩ (Int.le_refl _) (by omega), Option.bind_some, first_true, Option.bind_some, sv]
    refine (if_pos rfl).trans ((if_pos rfl).trans ?_)
    rw [At_any S A ht, Option.bind_some]
    have e : atV t (atV now p 0 n d t).1 (atV now p 0 n d t).2 n d t = atV now p 0 n d t := if_pos (Int.le_refl _)
    rw [e, o]
    show (if p + (t - now) * n / d = IntKind.u64.wrap (p + (t - now) * n / d) then _ else _) = _
    rw [IntWalk.u64_in (p + (t - now) * n / d) (by omega)]
    refine (if_pos rfl).trans ?_
    unfold clock_Clock_Rest.f
    rw [Option.bind_some]
    simp
  | succ m ih =>
    intro k i t hi g1 g2
    have ht : U64 t := ⟨by omega, by omega⟩
    obtain ⟨x0, x1⟩ := rd_w64 hw i (by omega)
    rw [show k + (m + 1) + 1 = (k + m + 1) + 1 by omega, tiklaw22_ClockSpeeds.l0]
    refine (if_pos (by omega)).trans ((if_pos (by omega)).trans ?_)
    by_cases q1 : rd l (i : Int) > 1048576
    · refine (if_pos q1).trans ?_
      rw [first_true]; rfl
    refine (if_neg q1).trans ?_
    have hle : t ≤ t + rd l (i : Int) := by omega
    have hu : t + rd l (i : Int) - now ≤ 268435456 := by omega
    have hb : 0 ≤ t + rd l (i : Int) ∧ t + rd l (i : Int) ≤ 18446744073709551615 := by omega
    have hi2 : i + 1 + m = l.length := by omega
    have hn3 : now ≤ t + rd l (i : Int) := by omega
    have hs3 : t + rd l (i : Int) - now ≤ 1048576 * ((i + 1 : Nat) : Int) := by omega
    have hii : -9223372036854775808 ≤ (i : Int) + 1 ∧ (i : Int) + 1 ≤ 9223372036854775807 := by omega
    have hih := ih k (i + 1) (t + rd l (i : Int)) hi2 hn3 hs3
    have w3 : wrap64 ((i : Int) + 1) = ((i + 1 : Nat) : Int) := by rw [IntWalk.wrap64_in _ hii]; rfl
    have ew : IntKind.u64.wrap (t + rd l (i : Int)) = t + rd l (i : Int) := IntWalk.u64_in _ hb
    rw [ew, w3]
    clear ew w3 hi2 hs3 hii
    generalize t + rd l (i : Int) = u at *
    clear x0 x1 q1
    have ht2 : U64 u := ⟨hb.1, by have := hb.2; clear hih; omega⟩
    have A := (atV_inv S T ht).1
    have B := (atV_inv S2 T2 ht).1
    have ca := comp S T g1 hle
    have cb := comp S2 T2 g1 hle
    rw [Go_any S A ht2, Option.bind_some, Go_any S2 B ht2, Option.bind_some, ca, cb]
    have es : (if u > t then u else t) = u := by
      by_cases q : u > t
      · exact if_pos q
      · exact (if_neg q).trans (by clear hih ca cb A B; omega)
    rw [es]
    have oa := open_at hn3 hu hd S.n0 hn p1
    have ob := open_at hn3 hu hd2 S2.n0 hn2 p1
    have fl := floor_le (show 0 ≤ u - now by clear hih ca cb A B oa ob es; omega) hd hd2 hc
    refine (if_neg ?_).trans hih
    show ¬ ((atV now p 0 n d u).1 < (atV now p 0 n2 d2 u).1)
    rw [oa, ob]
    show ¬ (p + (u - now) * n / d < p + (u - now) * n2 / d2)
    clear hih ca cb A B oa ob es
    omega
theorem speeds_any (now p n d n2 d2 : Int) (l : List Int) (m1 : rate_May.f n d = some true) (m2 : rate_May.f n2 d2 = some true) (hU : U64 n ∧ U64 d) (hU2 : U64 n2 ∧ U64 d2) (h0 : 0 ≤ now) (h1 : now ≤ 4611686018427387904) (p0 : 0 ≤ p) (p1 : p ≤ 4611686018427387904) (hw : W64 l) :
    tiklaw22_ClockSpeeds.f 1000 now p n d n2 d2 l = some true := by
  obtain ⟨k1, _, _, b1⟩ := may_pow m1 hU.2.1
  obtain ⟨k2, _, _, b2⟩ := may_pow m2 hU2.2.1
  have S := sp_of m1 hU.1.1 hU.2.1
  have S2 := sp_of m2 hU2.1.1 hU2.2.1
  have e1 : clock_New.f now p n d = some (now, p, 0, n, d, 0) := if_pos ⟨m1, h1, p1⟩
  have e2 : clock_New.f now p n2 d2 = some (now, p, 0, n2, d2, 0) := if_pos ⟨m2, h1, p1⟩
  have jt : tiklaw22_ClockSpeeds.j0 1000 now p l true n d now p 0 n d now p 0 n2 d2 = some true := by
    rw [show (1000 : Nat) = 999 + 1 from rfl, tiklaw22_ClockSpeeds.j0, first_true]; rfl
  unfold tiklaw22_ClockSpeeds.f
  rw [first_true, Option.bind_some, e1]
  refine (if_pos rfl).trans ?_
  rw [Option.bind_some, e2, Option.bind_some]
  refine (if_neg (by simp)).trans ((if_pos rfl).trans ((if_pos rfl).trans ?_))
  by_cases q1 : (l.length : Int) > 200
  · exact (if_pos q1).trans jt
  refine (if_neg q1).trans ?_
  by_cases q2 : now > 1125899906842624
  · exact (if_pos q2).trans jt
  refine (if_neg q2).trans ?_
  by_cases q3 : p > 1125899906842624
  · exact (if_pos q3).trans jt
  refine (if_neg q3).trans ?_
  have w1 : IntKind.u64.wrap (n * d2) = n * d2 := IntWalk.u64_in _ ⟨Int.mul_nonneg S.n0 (by have := S2.d1; omega), by
    have : n * d2 ≤ 1073741824 * 1048576 := Int.mul_le_mul S.n1 S2.d2 (by have := S2.d1; omega) (by omega)
    omega⟩
  have w2 : IntKind.u64.wrap (n2 * d) = n2 * d := IntWalk.u64_in _ ⟨Int.mul_nonneg S2.n0 (by have := S.d1; omega), by
    have : n2 * d ≤ 1073741824 * 1048576 := Int.mul_le_mul S2.n1 S.d2 (by have := S.d1; omega) (by omega)
    omega⟩
  rw [w1, w2]
  by_cases q4 : n * d2 < n2 * d
  · rw [decide_eq_true q4]; exact jt
  rw [decide_eq_false q4, show (1000 : Nat) = 999 + 1 from rfl, tiklaw22_ClockSpeeds.j0]
  refine (if_neg (by simp)).trans ?_
  have := speeds_l0 S S2 b1 b2 (Int.not_lt.1 q4) h0 (by omega) p0 (by omega) l (by omega) hw l.length (998 - l.length) 0 now (by omega) (Int.le_refl _) (by omega)
  rw [show 998 - l.length + l.length + 1 = 999 by omega] at this
  have e3 : atV now p 0 n d now = (p, 0) := if_pos (Int.le_refl _)
  have e4 : atV now p 0 n2 d2 now = (p, 0) := if_pos (Int.le_refl _)
  rw [e3, e4] at this
  exact this
end Go.Proofs.Ytcfndcjbgalnpaa.Hand
