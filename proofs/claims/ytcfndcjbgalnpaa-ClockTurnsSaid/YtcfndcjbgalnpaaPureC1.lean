/-
  ClockSteps: however often it is asked on the way, it comes to the same place. No program.
-/
import Derived.Test.YtcfndcjbgalnpaaClock2
namespace Go.Proofs.Ytcfndcjbgalnpaa.Hand
open Go.RowKit Go.Proofs.YtcfndcjbgalnpaaW.PrintWords Go.Proofs.YtcfndcjbgalnpaaW.PrintLast Go.Proofs.YtcfndcjbgalnpaaW.PrintMore Go.Proofs.Ytcfndcjbgalnpaa.PA Go.Proofs.Ytcfndcjbgalnpaa.PB Go.Proofs.Ytcfndcjbgalnpaa.PC Go.Proofs.Ytcfndcjbgalnpaa.PL

/-- Where it stands at a time, and what is left over. -/
def atV (s P R n d t : Int) : Int × Int := if t ≤ s then (P, R) else if ((t - s) * n + R) / d ≥ 4611686018427387904 - P then (4611686018427387904, 0) else (P + ((t - s) * n + R) / d, ((t - s) * n + R) % d)
structure Sp (n d : Int) : Prop where
  may : rate_May.f n d = some true
  d1 : 1 ≤ d
  d2 : d ≤ 1048576
  n0 : 0 ≤ n
  n1 : n ≤ 1073741824
structure St (s P R d : Int) : Prop where
  s0 : 0 ≤ s
  s1 : s < 18446744073709551616
  p0 : 0 ≤ P
  p1 : P ≤ 4611686018427387904
  r0 : 0 ≤ R
  r1 : R < d
theorem sp_of {n d : Int} (h : rate_May.f n d = some true) (hn : 0 ≤ n) (hd : 0 ≤ d) : Sp n d := by
  obtain ⟨k, hk, e, h2⟩ := may_pow h hd
  obtain ⟨a, b⟩ := pow_20 k hk
  rw [← e] at a b
  exact ⟨h, a, b, hn, by omega⟩
theorem scale_f {t r n d : Int} (S : Sp n d) (ht : U64 t) (r0 : 0 ≤ r) (r1 : r < d) : rate_Scale.f t r n d = some (scaleV t r n d) := by
  obtain ⟨a, b, c, e, f⟩ := S
  unfold rate_Scale.f
  rw [if_pos ⟨ht, ⟨r0, by omega⟩, ⟨e, by omega⟩, ⟨by omega, by omega⟩⟩, a, Option.bind_some, if_pos ⟨rfl, r1⟩]
theorem at_any {s P R n d t : Int} (S : Sp n d) (T : St s P R d) (ht : U64 t) : clock_Clock_at.f s P R n d t = some ((atV s P R n d t).1, (atV s P R n d t).2, s, P, R, n, d) := by
  obtain ⟨a, b, c, e, f, g⟩ := T
  unfold clock_Clock_at.f atV
  by_cases h : t ≤ s
  · rw [if_pos h, if_pos h]
  · rw [if_neg h, if_neg h, IntWalk.u64_in (t - s) (by have := ht.2; have := ht.1; omega), scale_f S ⟨by omega, by have := ht.2; omega⟩ f g, Option.bind_some]
    have hN : 0 ≤ (t - s) * n + R := by have := Int.mul_nonneg (show 0 ≤ t - s by omega) S.n0; omega
    have hX : 0 ≤ ((t - s) * n + R) / d := Int.ediv_nonneg hN (by have := S.d1; omega)
    unfold scaleV
    generalize ((t - s) * n + R) / d = X at *
    generalize ((t - s) * n + R) % d = Y at *
    by_cases q : X > 4611686018427387904
    · rw [if_pos q, if_pos (show X ≥ 4611686018427387904 - P by omega)]
      rfl
    · rw [if_neg q, IntWalk.u64_in (4611686018427387904 - P) (by omega)]
      by_cases q2 : X ≥ 4611686018427387904 - P
      · refine (if_pos rfl).trans ((if_pos q2).trans ?_)
        rw [if_pos q2]
      · refine (if_pos rfl).trans ((if_neg q2).trans ?_)
        rw [if_neg q2]
        show some (IntKind.u64.wrap (P + X), Y, s, P, R, n, d) = _
        rw [IntWalk.u64_in (P + X) (by omega)]
theorem At_any {s P R n d t : Int} (S : Sp n d) (T : St s P R d) (ht : U64 t) : clock_Clock_At.f s P R n d t = some ((atV s P R n d t).1, s, P, R, n, d) := by
  unfold clock_Clock_At.f
  rw [at_any S T ht]; rfl
theorem Go_any {s P R n d t : Int} (S : Sp n d) (T : St s P R d) (ht : U64 t) : clock_Clock_Go.f s P R n d t = some ((atV s P R n d t).1, if t > s then t else s, (atV s P R n d t).1, (atV s P R n d t).2, n, d) := by
  unfold clock_Clock_Go.f
  by_cases h : t > s
  · rw [if_pos h, if_pos h, at_any S T ht]; rfl
  · rw [if_neg h, if_neg h]
    have : atV s P R n d t = (P, R) := if_pos (by omega)
    rw [this]
theorem atV_inv {s P R n d t : Int} (S : Sp n d) (T : St s P R d) (ht : U64 t) : St t (atV s P R n d t).1 (atV s P R n d t).2 d ∧ P ≤ (atV s P R n d t).1 := by
  obtain ⟨a, b, c, e, f, g⟩ := T
  have hd := S.d1
  unfold atV
  by_cases h : t ≤ s
  · rw [if_pos h]; exact ⟨⟨ht.1, ht.2, c, e, f, g⟩, Int.le_refl _⟩
  · rw [if_neg h]
    have hN : 0 ≤ (t - s) * n + R := by have := Int.mul_nonneg (show 0 ≤ t - s by omega) S.n0; omega
    have hX : 0 ≤ ((t - s) * n + R) / d := Int.ediv_nonneg hN (by omega)
    have hY0 : 0 ≤ ((t - s) * n + R) % d := Int.emod_nonneg _ (by omega)
    have hY1 : ((t - s) * n + R) % d < d := Int.emod_lt_of_pos _ (by omega)
    generalize ((t - s) * n + R) / d = X at *
    generalize ((t - s) * n + R) % d = Y at *
    by_cases q2 : X ≥ 4611686018427387904 - P
    · rw [if_pos q2]; exact ⟨⟨ht.1, ht.2, by simp, by simp, by simp, show (0 : Int) < d by omega⟩, by simpa using e⟩
    · rw [if_neg q2]; exact ⟨⟨ht.1, ht.2, show 0 ≤ P + X by omega, show P + X ≤ _ by omega, hY0, hY1⟩, show P ≤ P + X by omega⟩
theorem comp {s0 P0 R0 n d s t : Int} (S : Sp n d) (T : St s0 P0 R0 d) (h1 : s0 ≤ s) (h2 : s ≤ t) : atV s (atV s0 P0 R0 n d s).1 (atV s0 P0 R0 n d s).2 n d t = atV s0 P0 R0 n d t := by
  have hd : d ≠ 0 := by have := S.d1; omega
  have hd0 : 0 < d := by have := S.d1; omega
  by_cases h3 : t ≤ s
  · obtain rfl : t = s := by omega
    exact if_pos (Int.le_refl _)
  by_cases h4 : s ≤ s0
  · obtain rfl : s = s0 := by omega
    have : atV s P0 R0 n d s = (P0, R0) := if_pos (Int.le_refl _)
    rw [this]
  have eN : (t - s0) * n + R0 = ((t - s) * n) + ((s - s0) * n + R0) := by
    have : (t - s0) * n = (t - s) * n + (s - s0) * n := by rw [← Int.add_mul]; congr 1; omega
    omega
  have hA : 0 ≤ (t - s) * n := Int.mul_nonneg (by omega) S.n0
  have u1 : atV s0 P0 R0 n d s = if ((s - s0) * n + R0) / d ≥ 4611686018427387904 - P0 then (4611686018427387904, 0) else (P0 + ((s - s0) * n + R0) / d, ((s - s0) * n + R0) % d) := if_neg h4
  have u2 : atV s0 P0 R0 n d t = if ((t - s0) * n + R0) / d ≥ 4611686018427387904 - P0 then (4611686018427387904, 0) else (P0 + ((t - s0) * n + R0) / d, ((t - s0) * n + R0) % d) := if_neg (by omega)
  rw [u1, u2, eN]
  clear u1 u2 eN
  generalize (s - s0) * n + R0 = B at *
  unfold atV
  rw [if_neg h3]
  generalize (t - s) * n = A at *
  have hle : B / d ≤ (A + B) / d := Int.ediv_le_ediv hd0 (by omega)
  have e1 : A + B = (A + B % d) + B / d * d := by have := Int.emod_add_mul_ediv B d; rw [Int.mul_comm] at this; omega
  have e2 : (A + B) / d = (A + B % d) / d + B / d := by
    have := Int.add_mul_ediv_right (A + B % d) (B / d) hd
    rw [← e1] at this
    exact this
  have e3 : (A + B) % d = (A + B % d) % d := by
    have := Int.add_mul_emod_self_right (A + B % d) (B / d) d
    rw [← e1] at this
    exact this
  by_cases q : B / d ≥ 4611686018427387904 - P0
  · rw [if_pos q, if_pos (show (A + B) / d ≥ 4611686018427387904 - P0 by omega)]
    refine if_pos ?_
    have : 0 ≤ (A + 0) / d := Int.ediv_nonneg (by omega) (by omega)
    show (A + 0) / d ≥ 4611686018427387904 - 4611686018427387904
    omega
  · rw [if_neg q]
    show (if (A + B % d) / d ≥ 4611686018427387904 - (P0 + B / d) then _ else _) = _
    rw [e2, e3]
    by_cases q2 : (A + B % d) / d ≥ 4611686018427387904 - (P0 + B / d)
    · rw [if_pos q2, if_pos (by omega)]
    · rw [if_neg q2, if_neg (by omega)]
      show (P0 + B / d + (A + B % d) / d, _) = _
      rw [show P0 + B / d + (A + B % d) / d = P0 + ((A + B % d) / d + B / d) by omega]
def W64 (l : List Int) : Prop := ∀ x ∈ l, 0 ≤ x ∧ x < 18446744073709551616
theorem rd_w64 {l : List Int} (h : W64 l) (i : Nat) (hi : i < l.length) : 0 ≤ rd l (i : Int) ∧ rd l (i : Int) < 18446744073709551616 := by
  unfold rd
  rw [Int.toNat_natCast, List.getD_eq_getElem?_getD, List.getElem?_eq_getElem hi]
  exact h _ (List.getElem_mem hi)
theorem steps_l0 {now p n d : Int} (S : Sp n d) (T : St now p 0 d) (l : List Int) (hl : l.length ≤ 9223372036854775000) (hw : W64 l) : ∀ (m k i : Nat) (t : Int), i + m = l.length → now ≤ t → t ≤ 4611686018427387904 →
    tiklaw22_ClockSteps.l0 (k + 2 * m + 1) l (atV now p 0 n d t).1 t (i : Int) n d t (atV now p 0 n d t).1 (atV now p 0 n d t).2 n d now p 0 n d = some true := by
  intro m
  induction m with
  | zero =>
    intro k i t hi h1 h2
    have ht : U64 t := ⟨by have := T.s0; omega, by omega⟩
    rw [show k + 2 * 0 + 1 = k + 1 by omega, tiklaw22_ClockSteps.l0]
    refine (if_neg (by omega)).trans ?_
    rw [first_true, Option.bind_some, At_any S T ht]
    refine (if_pos rfl).trans ?_
    rw [Option.bind_some]
    refine (if_pos rfl).trans ?_
    show (clock_Clock_Go.f now p 0 n d t).bind _ = _
    rw [Go_any S T ht, Option.bind_some]
    refine (if_pos rfl).trans ?_
    unfold clock_Clock_Rest.f
    simp only [Option.bind_some]
    simp
  | succ m ih =>
    intro k i t hi h1 h2
    have ht : U64 t := ⟨by have := T.s0; omega, by omega⟩
    obtain ⟨x0, x1⟩ := rd_w64 hw i (by omega)
    rw [show k + 2 * (m + 1) + 1 = (k + 2 * m + 1) + 1 + 1 by omega, tiklaw22_ClockSteps.l0]
    refine (if_pos (by omega)).trans ((if_pos (by omega)).trans ?_)
    have jt : ∀ K, tiklaw22_ClockSteps.j2 (K + 1) l (atV now p 0 n d t).1 t (i : Int) true n d t (atV now p 0 n d t).1 (atV now p 0 n d t).2 n d now p 0 n d = some true := fun K => by
      rw [tiklaw22_ClockSteps.j2, first_true]; rfl
    have w3 : wrap64 ((i : Int) + 1) = ((i + 1 : Nat) : Int) := by rw [IntWalk.wrap64_in _ (by omega)]; omega
    by_cases q1 : rd l (i : Int) > 1073741824
    · exact (if_pos q1).trans (jt _)
    refine (if_neg q1).trans ?_
    by_cases q2 : t > 1152921504606846976
    · rw [decide_eq_true q2]; exact jt _
    rw [decide_eq_false q2, tiklaw22_ClockSteps.j2]
    have hih := ih k (i + 1) (t + rd l (i : Int)) (by omega) (by omega) (by omega)
    have ew : IntKind.u64.wrap (t + rd l (i : Int)) = t + rd l (i : Int) := IntWalk.u64_in _ (by have := ht.1; omega)
    rw [ew, w3]
    refine (if_neg (by simp)).trans ((if_pos (by omega)).trans ((if_pos (by omega)).trans ?_))
    have hle : t ≤ t + rd l (i : Int) := by omega
    have ht2 : U64 (t + rd l (i : Int)) := ⟨by have := ht.1; omega, by omega⟩
    generalize t + rd l (i : Int) = u at *
    clear x0 x1 q1 ew w3
    have T2 := (atV_inv S T ht).1
    have c := comp S T h1 hle
    have I3 := atV_inv S T2 ht2
    rw [At_any S T2 ht2, Option.bind_some]
    show (clock_Clock_Go.f t (atV now p 0 n d t).1 (atV now p 0 n d t).2 n d u).bind _ = _
    rw [Go_any S T2 ht2, Option.bind_some]
    rw [c] at I3 ⊢
    have es : (if u > t then u else t) = u := by
      by_cases q : u > t
      · exact if_pos q
      · exact (if_neg q).trans (by omega)
    rw [es]
    refine (if_pos rfl).trans ((if_neg (Int.not_lt.2 I3.2)).trans ?_)
    unfold clock_Clock_Rest.f
    rw [Option.bind_some]
    exact (if_neg (Int.not_le.2 I3.1.r1)).trans hih
theorem steps_any (now p n d : Int) (l : List Int) (S : Sp n d) (h0 : 0 ≤ now) (h1 : now ≤ 4611686018427387904) (p0 : 0 ≤ p) (p1 : p ≤ 4611686018427387904) (hw : W64 l) : tiklaw22_ClockSteps.f 1000 now p n d l = some true := by
  have T : St now p 0 d := ⟨h0, by omega, p0, p1, by omega, by have := S.d1; omega⟩
  have e1 : clock_New.f now p n d = some (now, p, 0, n, d, 0) := if_pos ⟨S.may, h1, p1⟩
  unfold tiklaw22_ClockSteps.f
  rw [first_true, Option.bind_some, e1]
  refine (if_pos rfl).trans ?_
  simp only [Option.bind_some]
  refine (if_neg (by simp)).trans ((if_pos trivial).trans ((if_pos trivial).trans ?_))
  by_cases q : (l.length : Int) > 200
  · rw [decide_eq_true q, show (1000 : Nat) = 999 + 1 from rfl, tiklaw22_ClockSteps.j0, first_true]; rfl
  · rw [decide_eq_false q, show (1000 : Nat) = 999 + 1 from rfl, tiklaw22_ClockSteps.j0]
    refine (if_neg (by simp)).trans ?_
    have := steps_l0 S T l (by omega) hw l.length (998 - 2 * l.length) 0 now (by omega) (Int.le_refl _) h1
    rw [show 998 - 2 * l.length + 2 * l.length + 1 = 999 by omega] at this
    have e2 : atV now p 0 n d now = (p, 0) := if_pos (Int.le_refl _)
    rw [e2] at this
    exact this
end Go.Proofs.Ytcfndcjbgalnpaa.Hand
