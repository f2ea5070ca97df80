/-
  The clock: what its steps come to, for ClockGoes (the same facts as in PureC1, PureC3, Clock2 to Clock4, over a smaller print). No program.
-/
import Derived.Test.YtcfndcjbgalnpaaClock1
import Derived.Test.YtcfndcjbgalnpaaPFx1
namespace Go.Proofs.Ytcfndcjbgalnpaa.Hand
open Go.RowKit Go.Proofs.YtcfndcjbgalnpaaW.PrintWords Go.Proofs.YtcfndcjbgalnpaaW.PrintLast Go.Proofs.YtcfndcjbgalnpaaW.PrintMore Go.Proofs.Ytcfndcjbgalnpaa.PA Go.Proofs.Ytcfndcjbgalnpaa.PB Go.Proofs.Ytcfndcjbgalnpaa.PC Go.Proofs.Ytcfndcjbgalnpaa.PF

theorem first_true : tiklaw22_first.f = some true := by decide +kernel
theorem new_any (a0 a1 n d : Int) (h : rate_May.f n d ≠ none) : clock_New.f a0 a1 n d ≠ none ∨ ∀ w, Calls Try.prog 8 #[.int .u64 a0, .int .u64 a1, .agg #[.int .u64 n, .int .u64 d]] w fun e w' => e = .returned (.tuple #[.pointer none, .int .i64 1]) ∧ Below w.heap.size w w' := by
  cases hM : rate_May.f n d with
  | none => exact absurd hM h
  | some b =>
    by_cases hc : b = true ∧ a0 ≤ 4611686018427387904 ∧ a1 ≤ 4611686018427387904
    · left
      unfold clock_New.f
      rw [hM, if_pos ⟨by rw [hc.1], hc.2⟩]
      simp
    · right
      intro w
      refine new_no a0 a1 n d b _ _ hM rfl rfl ?_
      cases b
      · exact .inl rfl
      · right
        by_cases h1 : a0 > 4611686018427387904
        · exact .inl (decide_eq_true h1)
        · exact .inr (decide_eq_true (by
            by_cases h2 : a1 > 4611686018427387904
            · exact h2
            · exact absurd ⟨rfl, by omega, by omega⟩ hc))
theorem may_some (n d : Int) : rate_May.f n d ≠ none := by
  unfold rate_May.f
  obtain ⟨c, hc⟩ : ∃ c, bits_OnesCount64.f d = some c := ⟨_, rfl⟩
  rw [hc, Option.bind_some]
  repeat' split
  all_goals simp
theorem new_open {a0 a1 n d : Int} (h : clock_New.f a0 a1 n d ≠ none) : rate_May.f n d = some true ∧ a0 ≤ 4611686018427387904 ∧ a1 ≤ 4611686018427387904 := by
  unfold clock_New.f at h
  split at h
  case isTrue h2 => exact h2
  case isFalse => exact absurd rfl h
abbrev NewNil (a0 a1 n d : Int) : Prop := ∀ w, Calls Try.prog 8 #[.int .u64 a0, .int .u64 a1, .agg #[.int .u64 n, .int .u64 d]] w fun e w' => e = .returned (.tuple #[.pointer none, .int .i64 1]) ∧ Below w.heap.size w w'
/-- Where it stands at a time, and what is left over. -/
def atV (s P R n d t : Int) : Int × Int := if t ≤ s then (P, R) else if ((t - s) * n + R) / d ≥ 4611686018427387904 - P then (4611686018427387904, 0) else (P + ((t - s) * n + R) / d, ((t - s) * n + R) % d)
structure Sp (n d : Int) : Prop where
  may : rate_May.f n d = some true
  d1 : 1 ≤ d
  d2 : d ≤ 1048576
  n0 : 0 ≤ n
  n1 : n ≤ 1073741824
structure St (s P R d : Int) : Prop where
  s0 : 0 ≤ s
  s1 : s < 18446744073709551616
  p0 : 0 ≤ P
  p1 : P ≤ 4611686018427387904
  r0 : 0 ≤ R
  r1 : R < d
theorem sp_of {n d : Int} (h : rate_May.f n d = some true) (hn : 0 ≤ n) (hd : 0 ≤ d) : Sp n d := by
  obtain ⟨k, hk, e, h2⟩ := may_pow h hd
  obtain ⟨a, b⟩ := pow_20 k hk
  rw [← e] at a b
  exact ⟨h, a, b, hn, by omega⟩
theorem scale_f {t r n d : Int} (S : Sp n d) (ht : U64 t) (r0 : 0 ≤ r) (r1 : r < d) : rate_Scale.f t r n d = some (scaleV t r n d) := by
  obtain ⟨a, b, c, e, f⟩ := S
  unfold rate_Scale.f
  rw [if_pos ⟨ht, ⟨r0, by omega⟩, ⟨e, by omega⟩, ⟨by omega, by omega⟩⟩, a, Option.bind_some, if_pos ⟨rfl, r1⟩]
theorem at_any {s P R n d t : Int} (S : Sp n d) (T : St s P R d) (ht : U64 t) : clock_Clock_at.f s P R n d t = some ((atV s P R n d t).1, (atV s P R n d t).2, s, P, R, n, d) := by
  obtain ⟨a, b, c, e, f, g⟩ := T
  unfold clock_Clock_at.f atV
  by_cases h : t ≤ s
  · rw [if_pos h, if_pos h]
  · rw [if_neg h, if_neg h, IntWalk.u64_in (t - s) (by have := ht.2; have := ht.1; omega), scale_f S ⟨by omega, by have := ht.2; omega⟩ f g, Option.bind_some]
    have hN : 0 ≤ (t - s) * n + R := by have := Int.mul_nonneg (show 0 ≤ t - s by omega) S.n0; omega
    have hX : 0 ≤ ((t - s) * n + R) / d := Int.ediv_nonneg hN (by have := S.d1; omega)
    unfold scaleV
    generalize ((t - s) * n + R) / d = X at *
    generalize ((t - s) * n + R) % d = Y at *
    by_cases q : X > 4611686018427387904
    · rw [if_pos q, if_pos (show X ≥ 4611686018427387904 - P by omega)]
      rfl
    · rw [if_neg q, IntWalk.u64_in (4611686018427387904 - P) (by omega)]
      by_cases q2 : X ≥ 4611686018427387904 - P
      · refine (if_pos rfl).trans ((if_pos q2).trans ?_)
        rw [if_pos q2]
      · refine (if_pos rfl).trans ((if_neg q2).trans ?_)
        rw [if_neg q2]
        show some (IntKind.u64.wrap (P + X), Y, s, P, R, n, d) = _
        rw [IntWalk.u64_in (P + X) (by omega)]
theorem At_any {s P R n d t : Int} (S : Sp n d) (T : St s P R d) (ht : U64 t) : clock_Clock_At.f s P R n d t = some ((atV s P R n d t).1, s, P, R, n, d) := by
  unfold clock_Clock_At.f
  rw [at_any S T ht]; rfl
theorem Go_any {s P R n d t : Int} (S : Sp n d) (T : St s P R d) (ht : U64 t) : clock_Clock_Go.f s P R n d t = some ((atV s P R n d t).1, if t > s then t else s, (atV s P R n d t).1, (atV s P R n d t).2, n, d) := by
  unfold clock_Clock_Go.f
  by_cases h : t > s
  · rw [if_pos h, if_pos h, at_any S T ht]; rfl
  · rw [if_neg h, if_neg h]
    have : atV s P R n d t = (P, R) := if_pos (by omega)
    rw [this]
theorem atV_inv {s P R n d t : Int} (S : Sp n d) (T : St s P R d) (ht : U64 t) : St t (atV s P R n d t).1 (atV s P R n d t).2 d ∧ P ≤ (atV s P R n d t).1 := by
  obtain ⟨a, b, c, e, f, g⟩ := T
  have hd := S.d1
  unfold atV
  by_cases h : t ≤ s
  · rw [if_pos h]; exact ⟨⟨ht.1, ht.2, c, e, f, g⟩, Int.le_refl _⟩
  · rw [if_neg h]
    have hN : 0 ≤ (t - s) * n + R := by have := Int.mul_nonneg (show 0 ≤ t - s by omega) S.n0; omega
    have hX : 0 ≤ ((t - s) * n + R) / d := Int.ediv_nonneg hN (by omega)
    have hY0 : 0 ≤ ((t - s) * n + R) % d := Int.emod_nonneg _ (by omega)
    have hY1 : ((t - s) * n + R) % d < d := Int.emod_lt_of_pos _ (by omega)
    generalize ((t - s) * n + R) / d = X at *
    generalize ((t - s) * n + R) % d = Y at *
    by_cases q2 : X ≥ 4611686018427387904 - P
    · rw [if_pos q2]; exact ⟨⟨ht.1, ht.2, by simp, by simp, by simp, show (0 : Int) < d by omega⟩, by simpa using e⟩
    · rw [if_neg q2]; exact ⟨⟨ht.1, ht.2, show 0 ≤ P + X by omega, show P + X ≤ _ by omega, hY0, hY1⟩, show P ≤ P + X by omega⟩
theorem mask32 (x : Int) (h0 : 0 ≤ x) (h1 : x < 4294967296) : Go.bits .and .u64 x 4294967295 = x := by
  rw [u64_and x 4294967295 h0 (by omega) (by omega) (by omega), show ((4294967295 : Int).toNat) = 2 ^ 32 - 1 from rfl, Nat.and_two_pow_sub_one_eq_mod]
  omega
theorem mul_small (x y : Int) (h0 : 0 ≤ x) (h1 : x < 1048577) (h2 : 0 ≤ y) (h3 : y < 1048577) : bits_Mul64.f x y = some (0, x * y) := by
  have hp0 : 0 ≤ x * y := Int.mul_nonneg h0 h2
  have hp1 : x * y ≤ 1048576 * 1048576 := Int.mul_le_mul (by omega) (by omega) h2 (by omega)
  have dx : x / 4294967296 = 0 := by omega
  have dy : y / 4294967296 = 0 := by omega
  unfold bits_Mul64.f
  rw [mask32 x h0 (by omega), mask32 y h2 (by omega), dx, dy]
  simp only [Int.zero_mul, Int.mul_zero]
  have w0 : IntKind.u64.wrap 0 = 0 := by decide +kernel
  have wp : IntKind.u64.wrap (x * y) = x * y := IntWalk.u64_in _ ⟨hp0, by omega⟩
  rw [w0, wp]
  generalize x * y = p at *
  have hq : p / 4294967296 < 4294967296 := by omega
  have hq0 : 0 ≤ p / 4294967296 := by omega
  simp only [Int.zero_add, Int.add_zero]
  have z : p / 4294967296 / 4294967296 = 0 := by omega
  rw [IntWalk.u64_in (p / 4294967296) ⟨hq0, by omega⟩, mask32 (p / 4294967296) hq0 hq, IntWalk.u64_in (p / 4294967296) ⟨hq0, by omega⟩, z]
  simp only [w0, Int.add_zero]
/-- A clock that is turned: it stands where it stood; what is left over is told in the new fractions. -/
theorem turn_any {s P R n d t n2 d2 : Int} (S : Sp n d) (S2 : Sp n2 d2) (T : St s P R d) (t0 : 0 ≤ t) (t1 : t ≤ 4611686018427387904) (K : Nat) :
    clock_Clock_Turn.f (K + 1) s P R n d t n2 d2 = some (0, if t > s then t else s, (atV s P R n d t).1, (atV s P R n d t).2 * d2 / d, n2, d2) := by
  have ht : U64 t := ⟨t0, by omega⟩
  have I := (atV_inv S T ht).1
  have hd := S.d1
  have hd1 := S.d2
  have hm := mul_small (atV s P R n d t).2 d2 I.r0 (by have := I.r1; omega) (by have := S2.d1; omega) (by have := S2.d2; omega)
  have hp0 : 0 ≤ (atV s P R n d t).2 * d2 := Int.mul_nonneg I.r0 (by have := S2.d1; omega)
  have hp1 : (atV s P R n d t).2 * d2 ≤ 1048576 * 1048576 := Int.mul_le_mul (by have := I.r1; omega) S2.d2 (by have := S2.d1; omega) (by omega)
  have hv := hi_none K ((atV s P R n d t).2 * d2) d (by omega) hp0 (by omega)
  unfold clock_Clock_Turn.f
  rw [S2.may, Option.bind_some]
  refine (if_pos rfl).trans ?_
  rw [decide_eq_false (by omega), clock_Clock_Turn.j0]
  refine (if_neg (by simp)).trans ?_
  rw [Go_any S T ht, Option.bind_some]
  show (bits_Mul64.f (atV s P R n d t).2 d2).bind _ = _
  rw [hm, Option.bind_some]
  show (bits_Div64.f K 0 ((atV s P R n d t).2 * d2) d).bind _ = _
  rw [hv]; rfl
end Go.Proofs.Ytcfndcjbgalnpaa.Hand
