/-
  ClockGoes: the program's clock and the document's go together. No program.
-/
import Derived.Test.YtcfndcjbgalnpaaPureC6
import Derived.Test.YtcfndcjbgalnpaaPGx2
namespace Go.Proofs.Ytcfndcjbgalnpaa.Hand
open Go.RowKit Go.Proofs.YtcfndcjbgalnpaaW.PrintWords Go.Proofs.YtcfndcjbgalnpaaW.PrintLast Go.Proofs.YtcfndcjbgalnpaaW.PrintMore Go.Proofs.Ytcfndcjbgalnpaa.PA Go.Proofs.Ytcfndcjbgalnpaa.PB Go.Proofs.Ytcfndcjbgalnpaa.PC Go.Proofs.Ytcfndcjbgalnpaa.PD Go.Proofs.Ytcfndcjbgalnpaa.PG

/-- What is left over, told in other fractions. -/
theorem rest_in2 {R d d2 : Int} (r0 : 0 ≤ R) (r1 : R < d) (h2 : 1 ≤ d2) : 0 ≤ R * d2 / d ∧ R * d2 / d < d2 := by
  have hd : 0 < d := by omega
  refine ⟨Int.ediv_nonneg (Int.mul_nonneg r0 (by omega)) (by omega), ?_⟩
  apply Int.ediv_lt_of_lt_mul hd
  rw [Int.mul_comm d2 d]
  exact Int.mul_lt_mul_of_pos_right r1 (by omega)
structure CI (s P R n d : Int) : Prop where
  S : Sp n d
  T : St s P R d
  J : P = 4611686018427387904 → R = 0
theorem atV_J {s P R n d t : Int} (I : CI s P R n d) : (atV s P R n d t).1 = 4611686018427387904 → (atV s P R n d t).2 = 0 := by
  unfold atV
  by_cases h : t ≤ s
  · rw [if_pos h]; exact I.J
  · rw [if_neg h]
    have := I.T.p1
    by_cases q : ((t - s) * n + R) / d ≥ 4611686018427387904 - P
    · rw [if_pos q]; intro _; rfl
    · rw [if_neg q]; intro hh
      have hh : P + ((t - s) * n + R) / d = 4611686018427387904 := hh
      omega
theorem rat_any {s P R n d t : Int} (I : CI s P R n d) (ht : U64 t) (K : Nat) : tikref22_Clock_at.f (K + 30) s P R n d t = some ((atV s P R n d t).1, (atV s P R n d t).2, s, P, R, n, d) := by
  obtain ⟨S, ⟨a, b, c, e, f, g⟩, J⟩ := I
  unfold tikref22_Clock_at.f atV
  by_cases h : t > s
  · rw [if_pos h, if_neg (show ¬ t ≤ s by omega), IntWalk.u64_in (t - s) (by have := ht.2; have := ht.1; omega), ref_scale S ⟨by omega, by have := ht.2; omega⟩ f g, Option.bind_some]
    have hN : 0 ≤ (t - s) * n + R := by have := Int.mul_nonneg (show 0 ≤ t - s by omega) S.n0; omega
    have hX : 0 ≤ ((t - s) * n + R) / d := Int.ediv_nonneg hN (by have := S.d1; omega)
    unfold scaleV
    generalize ((t - s) * n + R) / d = X at *
    generalize ((t - s) * n + R) % d = Y at *
    by_cases q : X > 4611686018427387904
    · rw [if_pos q, if_pos (show X ≥ 4611686018427387904 - P by omega)]
      rfl
    · rw [if_neg q, IntWalk.u64_in (4611686018427387904 - P) (by omega)]
      by_cases q2 : X ≥ 4611686018427387904 - P
      · refine (if_pos rfl).trans ((if_pos q2).trans ?_)
        rw [if_pos q2]
      · refine (if_pos rfl).trans ((if_neg q2).trans ?_)
        rw [if_neg q2]
        show some (IntKind.u64.wrap (P + X), Y, s, P, R, n, d) = _
        rw [IntWalk.u64_in (P + X) (by omega)]
  · rw [if_neg h, if_pos (show t ≤ s by omega), ref_scale S ⟨by omega, by omega⟩ f g, Option.bind_some]
    unfold scaleV
    have e1 : (0 * n + R) / d = 0 := by rw [Int.zero_mul, Int.zero_add]; exact Int.ediv_eq_zero_of_lt f g
    have e2 : (0 * n + R) % d = R := by rw [Int.zero_mul, Int.zero_add]; exact Int.emod_eq_of_lt f g
    rw [e1, e2, if_neg (show ¬ (0 : Int) > 4611686018427387904 by omega), IntWalk.u64_in (4611686018427387904 - P) (by omega)]
    refine (if_pos rfl).trans ?_
    by_cases q : P = 4611686018427387904
    · refine (if_pos (show (0 : Int) ≥ 4611686018427387904 - P by omega)).trans ?_
      rw [J q, q]
    · refine (if_neg (show ¬ (0 : Int) ≥ 4611686018427387904 - P by omega)).trans ?_
      show some (IntKind.u64.wrap (P + 0), R, s, P, R, n, d) = _
      rw [IntWalk.u64_in (P + 0) (by omega), Int.add_zero]
theorem rAt_any {s P R n d t : Int} (I : CI s P R n d) (ht : U64 t) (K : Nat) : refAt.f (K + 30) s P R n d t = some (atV s P R n d t).1 := by
  unfold refAt.f tikref22_Clock_At.f
  rw [rat_any I ht K, Option.bind_some, Option.bind_some]
  exact if_pos rfl
theorem rGo_any {s P R n d t : Int} (I : CI s P R n d) (ht : U64 t) (K : Nat) : tikref22_Clock_Go.f (K + 30) s P R n d t = some ((atV s P R n d t).1, if t > s then t else s, (atV s P R n d t).1, (atV s P R n d t).2, n, d) := by
  unfold tikref22_Clock_Go.f
  by_cases h : t ≥ s
  · rw [if_pos h, rat_any I ht K, Option.bind_some]
    have : (if t > s then t else s) = t := by
      by_cases q : t > s
      · exact if_pos q
      · rw [if_neg q]; omega
    rw [this]
  · rw [if_neg h, if_neg (show ¬ t > s by omega)]
    have : atV s P R n d t = (P, R) := if_pos (by omega)
    rw [this]
theorem go_both {s P R n d t : Int} (I : CI s P R n d) (ht : U64 t) : ∃ e s' P' R' n' d', clock_Clock_Go.f s P R n d t = some (e, s', P', R', n', d') ∧ (∀ K, tikref22_Clock_Go.f (K + 30) s P R n d t = some (e, s', P', R', n', d')) ∧ CI s' P' R' n' d' := by
  have hI := (atV_inv I.S I.T ht).1
  refine ⟨_, _, _, _, _, _, Go_any I.S I.T ht, rGo_any I ht, I.S, ⟨?_, ?_, hI.p0, hI.p1, hI.r0, hI.r1⟩, atV_J I⟩
  · have := ht.1; have := I.T.s0; split <;> omega
  · have := ht.2; have := I.T.s1; split <;> omega
theorem set_both {s P R n d t p : Int} (I : CI s P R n d) (ht : U64 t) (hp : U64 p) : ∃ e s' P' R' n' d', clock_Clock_Set.f s P R n d t p = some (e, s', P', R', n', d') ∧ tikref22_Clock_Set.f s P R n d t p = some (e, s', P', R', n', d') ∧ CI s' P' R' n' d' := by
  unfold clock_Clock_Set.f tikref22_Clock_Set.f
  by_cases h1 : t > 4611686018427387904
  · rw [if_pos h1]; exact ⟨_, _, _, _, _, _, rfl, rfl, I⟩
  · by_cases h2 : p > 4611686018427387904
    · rw [if_neg h1, if_pos h2]; exact ⟨_, _, _, _, _, _, rfl, rfl, I⟩
    · rw [if_neg h1, if_neg h2]
      exact ⟨_, _, _, _, _, _, rfl, rfl, I.S, ⟨ht.1, ht.2, hp.1, by omega, by omega, by have := I.S.d1; omega⟩, fun _ => rfl⟩
theorem turn_both {s P R n d t n2 d2 : Int} (I : CI s P R n d) (ht : U64 t) (hn2 : U64 n2) (hd2 : U64 d2) : ∃ e s' P' R' n' d', (∀ K, clock_Clock_Turn.f (K + 1) s P R n d t n2 d2 = some (e, s', P', R', n', d')) ∧ (∀ K, tikref22_Clock_Turn.f (K + 30) s P R n d t n2 d2 = some (e, s', P', R', n', d')) ∧ CI s' P' R' n' d' := by
  have hm := ref_may n2 d2 hn2 hd2
  cases hM : rate_May.f n2 d2 with
  | none => exact absurd hM (may_some n2 d2)
  | some b =>
    rw [hM] at hm
    by_cases h1 : t > 4611686018427387904
    · refine ⟨1, s, P, R, n, d, fun K => ?_, fun K => ?_, I⟩
      · unfold clock_Clock_Turn.f
        rw [hM, Option.bind_some, decide_eq_true h1, ite_self, clock_Clock_Turn.j0]; rfl
      · unfold tikref22_Clock_Turn.f
        rw [if_pos h1]
    · cases b with
      | false =>
        refine ⟨1, s, P, R, n, d, fun K => ?_, fun K => ?_, I⟩
        · unfold clock_Clock_Turn.f
          rw [hM, Option.bind_some, if_neg (show ¬ (false = true) by decide), clock_Clock_Turn.j0]; rfl
        · unfold tikref22_Clock_Turn.f
          rw [if_neg h1, hm, Option.bind_some, if_neg (show ¬ (false = true) by decide)]
      | true =>
        have S2 := sp_of hM hn2.1 hd2.1
        have hI := (atV_inv I.S I.T ht).1
        have hd := I.S.d1
        have hd' := I.S.d2
        have r := rest_in2 hI.r0 hI.r1 S2.d1
        refine ⟨_, _, _, _, _, _, fun K => turn_any I.S S2 I.T ht.1 (by omega) K, fun K => ?_, S2, ⟨?_, ?_, hI.p0, hI.p1, r.1, r.2⟩, fun h => ?_⟩
        · have hp0 : 0 ≤ (atV s P R n d t).2 * d2 := Int.mul_nonneg hI.r0 (by have := S2.d1; omega)
          have hp1 : (atV s P R n d t).2 * d2 ≤ 1048576 * 1048576 := Int.mul_le_mul (by have := hI.r1; omega) S2.d2 (by have := S2.d1; omega) (by omega)
          unfold tikref22_Clock_Turn.f
          rw [if_neg h1, hm, Option.bind_some, if_pos rfl, rGo_any I ht K, Option.bind_some]
          refine (if_neg (show ¬ d = 0 by omega)).trans ?_
          show some ((0 : Int), _, _, IntKind.u64.wrap (Int.tdiv (IntKind.u64.wrap ((atV s P R n d t).2 * d2)) d), n2, d2) = _
          generalize (atV s P R n d t).2 * d2 = M at *
          rw [IntWalk.u64_in M ⟨hp0, by omega⟩, Int.tdiv_eq_ediv_of_nonneg hp0]
          have q1 : 0 ≤ M / d := Int.ediv_nonneg hp0 (by omega)
          have q2 : M / d ≤ M := Int.ediv_le_self d hp0
          rw [IntWalk.u64_in (M / d) ⟨q1, by omega⟩]
        · have := ht.1; have := I.T.s0; split <;> omega
        · have := ht.2; have := I.T.s1; split <;> omega
        · rw [atV_J I h, Int.zero_mul, Int.zero_ediv]
theorem goes_j3 (K : Nat) (l : List S48) (i z0 z1 z2 z3 z4 : Int) {s P R n d : Int} (I : CI s P R n d) (h1 : U64 z1) (h2 : U64 z2) :
    tiklaw22_ClockGoes.j3 (K + 30 + 1) l i true s P R n d s P R n d z0 z1 z2 z3 z4 = tiklaw22_ClockGoes.l0 (K + 30) l (wrap64 (i + 1)) s P R n d s P R n d := by
  rw [tiklaw22_ClockGoes.j3, if_pos rfl, At_any I.S I.T h1, Option.bind_some, rAt_any I h1 K, Option.bind_some]
  refine (if_pos rfl).trans ?_
  show (clock_Clock_At.f s P R n d z2).bind _ = _
  rw [At_any I.S I.T h2, Option.bind_some, rAt_any I h2 K, Option.bind_some]
  refine (if_pos rfl).trans ?_
  unfold clock_Clock_Rest.f clock_Clock_Speed.f tiklaw22_plain.f
  simp only [Option.bind_some]
  refine (if_pos trivial).trans ?_
  refine if_neg ?_
  simp
structure OkOp (o : S48) : Prop where
  h1 : U64 o.f1
  h2 : U64 o.f2
  h3 : U64 o.f3.f0
  h4 : U64 o.f3.f1
theorem rd_op {l : List S48} (h : ∀ o ∈ l, OkOp o) (i : Nat) (hi : i < l.length) : OkOp (rd_T48 l (i : Int)) := by
  unfold rd_T48
  rw [Int.toNat_natCast, List.getD_eq_getElem?_getD, List.getElem?_eq_getElem hi]
  exact h _ (List.getElem_mem hi)
theorem goes_l0 (l : List S48) (hl : l.length ≤ 200) (hw : ∀ o ∈ l, OkOp o) : ∀ (m k i : Nat) (s P R n d : Int), i + m = l.length → CI s P R n d →
    tiklaw22_ClockGoes.l0 (k + 30 + 3 * m + 2) l (i : Int) s P R n d s P R n d = some true := by
  intro m
  induction m with
  | zero =>
    intro k i s P R n d hi I
    rw [show k + 30 + 3 * 0 + 2 = k + 31 + 1 by omega, tiklaw22_ClockGoes.l0, if_pos rfl, decide_eq_false (show ¬ ((i : Int) < (l.length : Int)) by omega), tiklaw22_ClockGoes.j2, if_neg (show ¬ (false = true) by decide), first_true]
    rfl
  | succ m ih =>
    intro k i s P R n d hi I
    have ho := rd_op hw i (by omega)
    have w3 : wrap64 ((i : Int) + 1) = ((i + 1 : Nat) : Int) := by rw [IntWalk.wrap64_in _ (by omega)]; omega
    have fin : ∀ s' P' R' n' d' z0, CI s' P' R' n' d' → tiklaw22_ClockGoes.j3 (k + 30 + 3 * m + 3) l (i : Int) true s' P' R' n' d' s' P' R' n' d' z0 (rd_T48 l (i : Int)).f1 (rd_T48 l (i : Int)).f2 (rd_T48 l (i : Int)).f3.f0 (rd_T48 l (i : Int)).f3.f1 = some true := by
      intro s' P' R' n' d' z0 I'
      have := goes_j3 (k + 3 * m + 2) l (i : Int) z0 (rd_T48 l (i : Int)).f1 (rd_T48 l (i : Int)).f2 (rd_T48 l (i : Int)).f3.f0 (rd_T48 l (i : Int)).f3.f1 I' ho.h1 ho.h2
      rw [show k + 30 + 3 * m + 3 = k + 3 * m + 2 + 30 + 1 by omega, this, w3]
      have h := ih k (i + 1) s' P' R' n' d' (by omega) I'
      rw [show k + 3 * m + 2 + 30 = k + 30 + 3 * m + 2 by omega]
      exact h
    rw [show k + 30 + 3 * (m + 1) + 2 = (k + 30 + 3 * m + 3) + 1 + 1 by omega, tiklaw22_ClockGoes.l0, if_pos rfl, decide_eq_true (show ((i : Int) < (l.length : Int)) by omega), tiklaw22_ClockGoes.j2, if_pos rfl, if_pos (show (0 : Int) ≤ (i : Int) by omega), if_pos (show ((i : Int) < (l.length : Int)) by omega)]
    clear w3
    generalize rd_T48 l (i : Int) = o at *
    by_cases q0 : o.f0 = 0
    · rw [if_pos q0]
      obtain ⟨e, s', P', R', n', d', g1, g2, I'⟩ := go_both I ho.h1
      rw [g1, Option.bind_some, show k + 30 + 3 * m + 3 = k + 3 * m + 3 + 30 by omega, g2, Option.bind_some]
      show tiklaw22_ClockGoes.j3 _ l _ (e == e) _ _ _ _ _ _ _ _ _ _ _ _ _ _ _ = _
      rw [beq_self_eq_true, show k + 3 * m + 3 + 30 = k + 30 + 3 * m + 3 by omega]
      exact fin s' P' R' n' d' _ I'
    · rw [if_neg q0]
      by_cases q1 : o.f0 = 1
      · rw [if_pos q1]
        obtain ⟨e, s', P', R', n', d', g1, g2, I'⟩ := set_both I ho.h1 ho.h2
        rw [g1, Option.bind_some, g2, Option.bind_some]
        show tiklaw22_ClockGoes.j3 _ l _ (e == e) _ _ _ _ _ _ _ _ _ _ _ _ _ _ _ = _
        rw [beq_self_eq_true]
        exact fin s' P' R' n' d' _ I'
      · rw [if_neg q1]
        by_cases q2 : o.f0 = 2
        · rw [if_pos q2]
          obtain ⟨e, s', P', R', n', d', g1, g2, I'⟩ := turn_both I ho.h1 ho.h3 ho.h4
          have g1' := g1 (k + 30 + 3 * m + 2)
          have g2' := g2 (k + 3 * m + 3)
          rw [show k + 3 * m + 3 + 30 = k + 30 + 3 * m + 3 by omega] at g2'
          rw [show k + 30 + 3 * m + 3 = k + 30 + 3 * m + 2 + 1 by omega, g1', Option.bind_some]
          unfold tiklaw22_plain.f
          rw [Option.bind_some]
          show (tikref22_Clock_Turn.f (k + 30 + 3 * m + 3) s P R n d o.f1 o.f3.f0 o.f3.f1).bind _ = _
          rw [g2', Option.bind_some]
          show tiklaw22_ClockGoes.j3 (k + 30 + 3 * m + 3) l _ (e == e) _ _ _ _ _ _ _ _ _ _ _ _ _ _ _ = _
          rw [beq_self_eq_true]
          exact fin s' P' R' n' d' _ I'
        · rw [if_neg q2]
          exact fin s P R n d _ I
theorem goes_any (now p n d : Int) (l : List S48) (m : rate_May.f n d = some true) (hn : U64 n) (hd : U64 d) (h0 : 0 ≤ now) (b0 : now ≤ 4611686018427387904) (p0 : 0 ≤ p) (b1 : p ≤ 4611686018427387904) (hw : ∀ o ∈ l, OkOp o) :
    tiklaw22_ClockGoes.f 1000 now p n d l = some true := by
  have e1 : clock_New.f now p n d = some (now, p, 0, n, d, 0) := if_pos ⟨m, b0, b1⟩
  have e2 : tikref22_NewClock.f now p n d = some (now, p, 0, n, d, 0) := if_pos ⟨(ref_may n d hn hd).trans m, b0, b1⟩
  have S := sp_of m hn.1 hd.1
  have I : CI now p 0 n d := ⟨S, ⟨h0, by omega, p0, b1, by omega, by have := S.d1; omega⟩, fun _ => rfl⟩
  unfold tiklaw22_ClockGoes.f
  rw [first_true, Option.bind_some, if_pos rfl]
  by_cases q : (l.length : Int) > 200
  · rw [if_pos q]; rfl
  · rw [if_neg q, e1, Option.bind_some]
    have h := goes_l0 l (by omega) hw l.length (967 - 3 * l.length) 0 now p 0 n d (by omega) I
    rw [show 967 - 3 * l.length + 30 + 3 * l.length + 2 = 999 by omega] at h
    unfold tiklaw22_plain.f
    rw [Option.bind_some]
    show (tikref22_NewClock.f now p n d).bind _ = _
    rw [e2, Option.bind_some]
    refine (if_pos rfl).trans ?_
    have hj : ∀ K, tiklaw22_ClockGoes.j0 (K + 1) l (false != false) now p 0 n d now p 0 n d = tiklaw22_ClockGoes.l0 K l 0 now p 0 n d now p 0 n d := fun K => by
      rw [tiklaw22_ClockGoes.j0]; exact if_neg (by decide)
    exact (hj 999).trans h
end Go.Proofs.Ytcfndcjbgalnpaa.Hand
