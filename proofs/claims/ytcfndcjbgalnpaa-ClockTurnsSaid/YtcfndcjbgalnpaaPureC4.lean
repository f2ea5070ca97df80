/-
  ClockTurns: the plain law. No program.
-/
import Derived.Test.YtcfndcjbgalnpaaPureC3
import Derived.Test.YtcfndcjbgalnpaaPUx1
namespace Go.Proofs.Ytcfndcjbgalnpaa.Hand
open Go.RowKit Go.Proofs.YtcfndcjbgalnpaaW.PrintWords Go.Proofs.YtcfndcjbgalnpaaW.PrintLast Go.Proofs.YtcfndcjbgalnpaaW.PrintMore Go.Proofs.Ytcfndcjbgalnpaa.PA Go.Proofs.Ytcfndcjbgalnpaa.PB Go.Proofs.Ytcfndcjbgalnpaa.PC Go.Proofs.Ytcfndcjbgalnpaa.PL Go.Proofs.Ytcfndcjbgalnpaa.PU

theorem sp01 : Sp 0 1 := ⟨by decide +kernel, by omega, by omega, by omega, by omega⟩
theorem sp11 : Sp 1 1 := ⟨by decide +kernel, by omega, by omega, by omega, by omega⟩
theorem may00 : rate_May.f 0 0 = some false := by decide +kernel
/-- What is left over, told in other fractions. -/
theorem rest_in {R d d2 : Int} (r0 : 0 ≤ R) (r1 : R < d) (h2 : 1 ≤ d2) : 0 ≤ R * d2 / d ∧ R * d2 / d < d2 := by
  have hd : 0 < d := by omega
  refine ⟨Int.ediv_nonneg (Int.mul_nonneg r0 (by omega)) (by omega), ?_⟩
  apply Int.ediv_lt_of_lt_mul hd
  rw [Int.mul_comm d2 d]
  exact Int.mul_lt_mul_of_pos_right r1 (by omega)
theorem turns_j3 (K : Nat) {now s P R n d : Int} (S : Sp n d) (T : St s P R d) (h0 : 0 ≤ now) (h1 : now ≤ 1152921504606846976) : tiklaw22_ClockTurns.j3 (K + 1 + 1) now false s P R n d = some true := by
  have T2 : St now 5 0 d := ⟨h0, by omega, by omega, by omega, by omega, by have := S.d1; omega⟩
  have e1 : clock_Clock_Set.f s P R n d now 5 = some (0, now, 5, 0, n, d) := by
    unfold clock_Clock_Set.f
    rw [if_neg (by omega), if_neg (by omega)]
  have e2 : atV now 5 0 n d now = (5, 0) := if_pos (Int.le_refl _)
  have e3 : clock_Clock_Turn.f (K + 1) now 5 0 n d now 0 0 = some (1, now, 5, 0, n, d) := by
    unfold clock_Clock_Turn.f
    rw [may00, Option.bind_some]
    exact (if_neg (by simp)).trans rfl
  rw [tiklaw22_ClockTurns.j3, first_true, e1]
  refine (if_neg (by simp)).trans ?_
  rw [Option.bind_some]
  refine (if_pos rfl).trans ?_
  rw [Option.bind_some]
  refine (if_pos rfl).trans ?_
  show (clock_Clock_At.f now 5 0 n d now).bind _ = _
  rw [At_any S T2 ⟨h0, by omega⟩, e2, Option.bind_some]
  refine (if_pos rfl).trans ?_
  unfold clock_Clock_Rest.f
  rw [Option.bind_some]
  refine (if_pos rfl).trans ?_
  show (clock_Clock_Turn.f (K + 1) now 5 0 n d now 0 0).bind _ = _
  rw [e3]; rfl
theorem turns_j2 (K : Nat) {now more P R : Int} (h0 : 0 ≤ now) (h1 : now ≤ 1152921504606846976) (m0 : 0 ≤ more) (m1 : more ≤ 1099511627776) (T : St (now + 2 * more) P R 1) :
    tiklaw22_ClockTurns.j2 (K + 1 + 1 + 1) now more P false (now + 2 * more) P R 0 1 = some true := by
  have w2 : IntKind.u64.wrap (now + IntKind.u64.wrap (2 * more)) = now + 2 * more := by rw [IntWalk.u64_in (2 * more) (by omega), IntWalk.u64_in _ (by omega)]
  have w3 : IntKind.u64.wrap (now + IntKind.u64.wrap (3 * more)) = now + 3 * more := by rw [IntWalk.u64_in (3 * more) (by omega), IntWalk.u64_in _ (by omega)]
  have w4 : IntKind.u64.wrap (P + more) = P + more := IntWalk.u64_in _ (by have := T.p0; have := T.p1; omega)
  have hR : R = 0 := by have := T.r0; have := T.r1; omega
  subst hR
  have t := turn_any sp01 sp11 T (show 0 ≤ now + 2 * more by clear w2 w3 w4; omega) (show now + 2 * more ≤ 4611686018427387904 by clear w2 w3 w4; omega) (K + 1)
  have e0 : atV (now + 2 * more) P 0 0 1 (now + 2 * more) = (P, 0) := if_pos (Int.le_refl _)
  rw [e0, if_neg (Int.lt_irrefl _)] at t
  have t2 : clock_Clock_Turn.f (K + 1 + 1) (now + 2 * more) P 0 0 1 (now + 2 * more) 1 1 = some (0, now + 2 * more, P, 0, 1, 1) := t.trans rfl
  have hg := Go_any sp11 T (t := now + 3 * more) ⟨by clear w2 w3 w4; omega, by clear w2 w3 w4; omega⟩
  have em : (atV (now + 2 * more) P 0 1 1 (now + 3 * more)).1 = mn (P + more) 4611686018427387904 := by
    clear w2 w3 w4
    have := T.p1
    unfold atV mn
    by_cases q : now + 3 * more ≤ now + 2 * more
    · rw [if_pos q]
      obtain rfl : more = 0 := by omega
      simp; omega
    · rw [if_neg q]
      have e : ((now + 3 * more - (now + 2 * more)) * 1 + 0) / 1 = more := by rw [Int.mul_one, Int.add_zero, Int.ediv_one]; omega
      rw [e]
      by_cases q2 : more ≥ 4611686018427387904 - P
      · rw [if_pos q2]; simp; omega
      · rw [if_neg q2]; simp; omega
  have hI := (atV_inv sp11 T (t := now + 3 * more) ⟨by clear w2 w3 w4; omega, by clear w2 w3 w4; omega⟩).1
  rw [tiklaw22_ClockTurns.j2, w2, w3, w4, t2]
  refine (if_neg (by simp)).trans ?_
  rw [Option.bind_some]
  refine (if_pos rfl).trans ?_
  show (clock_Clock_Go.f (now + 2 * more) P 0 1 1 (now + 3 * more)).bind _ = _
  rw [hg, Option.bind_some, em]
  have eb : (mn (P + more) 4611686018427387904 != mn (P + more) 4611686018427387904) = false := by simp
  show tiklaw22_ClockTurns.j3 _ now (mn (P + more) 4611686018427387904 != mn (P + more) 4611686018427387904) _ _ _ _ _ = _
  rw [eb]
  rw [em] at hI
  have T3 : St (if now + 3 * more > now + 2 * more then now + 3 * more else now + 2 * more) (mn (P + more) 4611686018427387904) (atV (now + 2 * more) P 0 1 1 (now + 3 * more)).2 1 :=
    ⟨by clear w2 w3 w4; split <;> omega, by clear w2 w3 w4; split <;> omega, hI.p0, hI.p1, hI.r0, hI.r1⟩
  exact turns_j3 K sp11 T3 h0 h1
/-- Asked at the time at which it stands: nothing changes. -/
theorem Go_same {s P R n d : Int} (S : Sp n d) (T : St s P R d) : clock_Clock_Go.f s P R n d s = some (P, s, P, R, n, d) := by
  rw [Go_any S T ⟨T.s0, T.s1⟩]
  have e0 : atV s P R n d s = (P, R) := if_pos (Int.le_refl _)
  rw [e0, if_neg (Int.lt_irrefl _)]
theorem Turn_same {s P R n d n2 d2 : Int} (S : Sp n d) (S2 : Sp n2 d2) (T : St s P R d) (h : s ≤ 4611686018427387904) (K : Nat) :
    clock_Clock_Turn.f (K + 1) s P R n d s n2 d2 = some (0, s, P, R * d2 / d, n2, d2) ∧ St s P (R * d2 / d) d2 := by
  have e0 : atV s P R n d s = (P, R) := if_pos (Int.le_refl _)
  have t := turn_any S S2 T T.s0 h K
  rw [e0, if_neg (Int.lt_irrefl _)] at t
  have r := rest_in T.r0 T.r1 S2.d1
  exact ⟨t, T.s0, T.s1, T.p0, T.p1, r.1, r.2⟩
theorem turns_j1 (K : Nat) {now more P R n d n2 d2 : Int} (S : Sp n d) (S2 : Sp n2 d2) (h0 : 0 ≤ now) (h1 : now ≤ 1152921504606846976) (m0 : 0 ≤ more) (m1 : more ≤ 1099511627776) (T : St (now + more) P R d) :
    tiklaw22_ClockTurns.j1 (K + 1 + 1 + 1 + 1) now more false n2 d2 (now + more) P R n d = some true := by
  have b1 : now + more ≤ 4611686018427387904 := by omega
  have w1 : IntKind.u64.wrap (now + more) = now + more := IntWalk.u64_in _ (by omega)
  have w2 : IntKind.u64.wrap (now + IntKind.u64.wrap (2 * more)) = now + 2 * more := by rw [IntWalk.u64_in (2 * more) (by clear w1; omega), IntWalk.u64_in _ (by clear w1; omega)]
  have g1 := Go_same S T
  obtain ⟨t1, T1⟩ := Turn_same S S2 T b1 (K + 1 + 1)
  have g2 := Go_same S2 T1
  obtain ⟨t2, T2⟩ := Turn_same S2 sp01 T1 b1 (K + 1 + 1)
  generalize R * d2 / d = R1 at *
  generalize R1 * 1 / d2 = R2 at *
  have u2 : U64 (now + 2 * more) := ⟨by clear w1 w2; omega, by clear w1 w2; omega⟩
  have g3 := Go_any sp01 T2 u2
  have hR : R2 = 0 := by have := T2.r0; have := T2.r1; clear w1 w2; omega
  subst hR
  have e0 : atV (now + more) P 0 0 1 (now + 2 * more) = (P, 0) := by
    have := T.p1
    unfold atV
    by_cases q : now + 2 * more ≤ now + more
    · exact if_pos q
    · rw [if_neg q, Int.mul_zero, Int.zero_add, Int.zero_ediv, Int.zero_emod]
      by_cases q2 : (0 : Int) ≥ 4611686018427387904 - P
      · rw [if_pos q2, show P = 4611686018427387904 by clear w1 w2; omega]
      · rw [if_neg q2, Int.add_zero]
  have es : (if now + 2 * more > now + more then now + 2 * more else now + more) = now + 2 * more := by
    by_cases q : now + 2 * more > now + more
    · exact if_pos q
    · exact (if_neg q).trans (by clear w1 w2; omega)
  rw [e0, es] at g3
  have T3 : St (now + 2 * more) P 0 1 := ⟨u2.1, u2.2, T.p0, T.p1, by omega, by omega⟩
  have j := turns_j2 K h0 h1 m0 m1 T3
  rw [tiklaw22_ClockTurns.j1, w1, w2, g1]
  refine (if_neg (by simp)).trans ?_
  rw [Option.bind_some]
  show (clock_Clock_Turn.f (K + 1 + 1 + 1) (now + more) P R n d (now + more) n2 d2).bind _ = _
  rw [t1, Option.bind_some]
  refine (if_pos rfl).trans ?_
  show (clock_Clock_Go.f (now + more) P R1 n2 d2 (now + more)).bind _ = _
  rw [g2, Option.bind_some]
  refine (if_pos rfl).trans ?_
  show (clock_Clock_Turn.f (K + 1 + 1 + 1) (now + more) P R1 n2 d2 (now + more) 0 1).bind _ = _
  rw [t2, Option.bind_some]
  refine (if_pos rfl).trans ?_
  show (clock_Clock_Go.f (now + more) P 0 0 1 (now + 2 * more)).bind _ = _
  rw [g3, Option.bind_some]
  show tiklaw22_ClockTurns.j2 _ now more P (P != P) _ _ _ _ _ = _
  rw [show (P != P) = false by simp]
  exact j
theorem turns_j0 (K : Nat) {now more p n d n2 d2 : Int} (S : Sp n d) (S2 : Sp n2 d2) (h0 : 0 ≤ now) (h1 : now ≤ 1152921504606846976) (p0 : 0 ≤ p) (p1 : p ≤ 1152921504606846976) (m0 : 0 ≤ more) (m1 : more ≤ 1099511627776) :
    tiklaw22_ClockTurns.j0 (K + 1 + 1 + 1 + 1 + 1) now more false n d n2 d2 now p 0 n d now p 0 n d = some true := by
  have T : St now p 0 d := ⟨h0, by omega, p0, by omega, by omega, by have := S.d1; omega⟩
  have u1 : U64 (now + more) := ⟨by omega, by omega⟩
  have I := (atV_inv S T u1).1
  have hd : d ≠ 0 := by have := S.d1; omega
  have t := turn_any S S T u1.1 (show now + more ≤ 4611686018427387904 by omega) (K + 1 + 1 + 1)
  rw [Int.mul_ediv_cancel _ hd] at t
  have g := Go_any S T u1
  have es : (if now + more > now then now + more else now) = now + more := by
    by_cases q : now + more > now
    · exact if_pos q
    · exact (if_neg q).trans (by omega)
  rw [es] at t g
  have g2 := Go_same S I
  have j := turns_j1 K S S2 h0 h1 m0 m1 I
  have w1 : IntKind.u64.wrap (now + more) = now + more := IntWalk.u64_in _ (by omega)
  rw [tiklaw22_ClockTurns.j0, w1, t]
  refine (if_neg (by simp)).trans ?_
  rw [Option.bind_some]
  refine (if_pos rfl).trans ?_
  show (clock_Clock_Go.f (now + more) (atV now p 0 n d (now + more)).1 (atV now p 0 n d (now + more)).2 n d (now + more)).bind _ = _
  rw [g2, Option.bind_some, g, Option.bind_some]
  refine (if_pos rfl).trans ?_
  unfold clock_Clock_Rest.f
  rw [Option.bind_some, Option.bind_some]
  show tiklaw22_ClockTurns.j1 _ now more ((atV now p 0 n d (now + more)).2 != (atV now p 0 n d (now + more)).2) _ _ _ _ _ _ _ = _
  rw [show ((atV now p 0 n d (now + more)).2 != (atV now p 0 n d (now + more)).2) = false by simp]
  exact j
end Go.Proofs.Ytcfndcjbgalnpaa.Hand
