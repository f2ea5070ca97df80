/- Texts of this claim, put together. -/
import Derived.Test.YtlgfmmkabnbllaaDoorMDPc
import Derived.Test.YtlgfmmkabnbllaaDoorMDPd
import Derived.Test.YtlgfmmkabnbllaaDoorMDPh
import Derived.Test.YtlgfmmkabnbllaaDoorRows
import Derived.Test.YtlgfmmkabnbllaaDoorMDPb
import Derived.Test.YtlgfmmkabnbllaaDoorTie
import Derived.Test.YtlgfmmkabnbllaaDoorCards
import Derived.WalkKit
import Derived.ProofKit
import Derived.OpenShut
import Derived.ShutString
import Derived.ChangeOld
import Derived.Below
import Derived.SizedLaws
import Derived.LaidMore
import Derived.Stop.Joined
import Derived.SevenTiedAt
set_option linter.unusedVariables false
set_option linter.unusedSimpArgs false
namespace Go.Proofs.YtlgfmmkabnbllaaDoor.Hand
open Go.RowKit Go.Proofs.YtlgfmmkabnbllaaDoorW.PrintWords Go.Proofs.YtlgfmmkabnbllaaDoorW.PrintLast Go.Proofs.YtlgfmmkabnbllaaDoorW.PrintMore Go.Proofs.YtlgfmmkabnbllaaDoor.PA Go.Proofs.YtlgfmmkabnbllaaDoor.PB Go.Proofs.YtlgfmmkabnbllaaDoor.PC Go.Proofs.YtlgfmmkabnbllaaDoor.PD Go.Proofs.YtlgfmmkabnbllaaDoor.PK Go.Proofs.YtlgfmmkabnbllaaDoor.PE Go.Proofs.YtlgfmmkabnbllaaDoor.PV
open Go.Proofs.YtlgfmmkabnbllaaDoor.PF (tiklaw23_first.f)
set_option linter.unusedSimpArgs false
set_option linter.unusedVariables false
theorem mn_min7 (a b : Int) : mn a b = min a b := by unfold mn; split <;> omega
theorem mx_max7 (a b : Int) : mx a b = max a b := by unfold mx; split <;> omega
theorem ref_mayV (now lo hi : Int) : tikref22_may.f now lo hi = some (mayV now lo hi) := by
  unfold tikref22_may.f mayV
  by_cases h1 : lo ≤ hi
  · rw [if_pos h1, decide_eq_true h1]
    by_cases h2 : now ≤ 4611686018427387904
    · rw [if_pos h2, decide_eq_true h2]; rfl
    · rw [if_neg h2, decide_eq_false h2]; rfl
  · rw [if_neg h1, decide_eq_false h1]; rfl
theorem stand_f (m q s P R n d now p : Int) (h1 : now ≤ 4611686018427387904) (h2 : p ≤ 4611686018427387904) : tikref22_Deck_stand.f m q s P R n d now p = some (m, p, now, p, 0, n, d) := by
  unfold tikref22_Deck_stand.f tikref22_Clock_Set.f
  rw [if_neg (by omega), if_neg (by omega)]; rfl
theorem dset_f (s P R n d now p : Int) (h1 : now ≤ 4611686018427387904) (h2 : p ≤ 4611686018427387904) : clock_Clock_Set.f s P R n d now p = some (0, now, p, 0, n, d) := by
  unfold clock_Clock_Set.f
  rw [if_neg (by omega), if_neg (by omega)]
theorem rset_f (s P R n d now p : Int) (h1 : now ≤ 4611686018427387904) (h2 : p ≤ 4611686018427387904) : tikref22_Clock_Set.f s P R n d now p = some (0, now, p, 0, n, d) := by
  unfold tikref22_Clock_Set.f
  rw [if_neg (by omega), if_neg (by omega)]
theorem ci_new {now p n d : Int} (S : Sp n d) (h0 : 0 ≤ now) (h1 : now ≤ 4611686018427387904) (p0 : 0 ≤ p) (p1 : p ≤ 4611686018427387904) : CI now p 0 n d :=
  ⟨S, ⟨h0, by omega, p0, p1, by omega, by have := S.d1; omega⟩, fun _ => rfl⟩
theorem go_ci {s P R n d t : Int} (I : CI s P R n d) (ht : U64 t) : CI (if t > s then t else s) (atV s P R n d t).1 (atV s P R n d t).2 n d := by
  have hI := (atV_inv I.S I.T ht).1
  refine ⟨I.S, ⟨?_, ?_, hI.p0, hI.p1, hI.r0, hI.r1⟩, atV_J I⟩
  · have := ht.1; have := I.T.s0; split <;> omega
  · have := ht.2; have := I.T.s1; split <;> omega
structure PR (m p n d : Int) (has : Bool) (s P R cn cd rp rs rP rR : Int) : Prop where
  I : CI rs rP rR n d
  p0 : 0 ≤ p
  p1 : p ≤ 4611686018427387904
  same : m ≠ 0 → rp = p
  plays : m = 2 → has = true ∧ s = rs ∧ P = rP ∧ R = rR ∧ cn = n ∧ cd = d
  mode : m = 0 ∨ m = 1 ∨ m = 2
  q0 : 0 ≤ rp
  q1 : rp ≤ 4611686018427387904
theorem tick_both {m p n d s P R cn cd rp rs rP rR now lo hi : Int} {has : Bool} (I : PR m p n d has s P R cn cd rp rs rP rR) (h0 : 0 ≤ now) (l0 : 0 ≤ lo) (K : Nat) :
    ∃ m' p' has' s' P' R' cn' cd' rp' rs' rP' rR', deck_Deck_Tick.f m p n d has s P R cn cd now lo hi = some (m', p', n, d, has', s', P', R', cn', cd') ∧
      tikref22_Deck_Tick.f (K + 30) m rp rs rP rR n d now lo hi = some (m', rp', rs', rP', rR', n, d) ∧ PR m' p' n d has' s' P' R' cn' cd' rp' rs' rP' rR' ∧ (m' = 0 → m ≠ 1) := by
  unfold deck_Deck_Tick.f tikref22_Deck_Tick.f
  rw [ref_mayV, Option.bind_some]
  by_cases hm : mayV now lo hi = true
  · obtain ⟨h1, h2, h3⟩ := mayV_parts hm
    rw [if_pos hm, hm, if_pos rfl]
    rcases I.mode with rfl | rfl | rfl
    · exact ⟨_, _, _, _, _, _, _, _, _, _, _, _, rfl, rfl, I, by decide⟩
    · have hs := I.same (by decide)
      subst hs
      rw [if_pos rfl, if_pos rfl]
      by_cases q : rp < lo
      · rw [if_pos q, stand_f _ _ _ _ _ _ _ _ _ h2 (by omega)]
        refine ⟨_, _, _, _, _, _, _, _, _, _, _, _, rfl, rfl, ⟨ci_new I.I.S h0 h2 l0 (by omega), ?_, ?_, ?_, ?_, .inr (.inl rfl), ?_, ?_⟩, by decide⟩
        · omega
        · omega
        · intro _; omega
        · intro h; cases h
        · omega
        · omega
      · rw [if_neg q]
        have e : max rp lo = rp := by omega
        rw [e]
        exact ⟨_, _, _, _, _, _, _, _, _, _, _, _, rfl, rfl, ⟨I.I, I.p0, I.p1, fun _ => rfl, (fun h => by cases h), .inr (.inl rfl), I.q0, I.q1⟩, by decide⟩
    · obtain ⟨rfl, rfl, rfl, rfl, rfl, rfl⟩ := I.plays rfl
      have hu : U64 now := ⟨h0, by omega⟩
      have G := go_ci I.I hu
      have hb := (atV_inv I.I.S I.I.T hu).1
      rw [if_neg (by decide), if_pos rfl, if_pos rfl, Go_any I.I.S I.I.T hu, Option.bind_some, if_neg (show ¬ ((2 : Int) = 1) by decide), if_pos rfl, rGo_any I.I hu K, Option.bind_some]
      dsimp only
      have b0 := hb.p0
      have b1 := hb.p1
      generalize (atV s P R cn cd now).1 = Q at *
      generalize (atV s P R cn cd now).2 = R2 at *
      generalize (if now > s then now else s) = S2 at *
      have S := I.I.S
      clear hb hu
      by_cases q : Q < lo
      · rw [if_pos q]
        unfold tickEnd
        rw [dset_f _ _ _ _ _ _ _ h2 (by omega), Option.bind_some, show min (max Q lo) hi = lo by omega, if_neg (show ¬ lo = Q by omega), rset_f _ _ _ _ _ _ _ h2 (by omega), Option.bind_some]
        dsimp only
        by_cases q2 : lo ≥ hi
        · have e : lo = hi := by omega
          subst e
          rw [if_pos q2, if_pos rfl]
          refine ⟨_, _, _, _, _, _, _, _, _, _, _, _, rfl, rfl, ⟨ci_new S h0 h2 l0 (by omega), l0, by omega, fun h => absurd rfl h, (fun h => by cases h), .inl rfl, l0, by omega⟩, by decide⟩
        · rw [if_neg q2, if_neg (by omega)]
          exact ⟨_, _, _, _, _, _, _, _, _, _, _, _, rfl, rfl, ⟨ci_new S h0 h2 l0 (by omega), l0, by omega, fun _ => rfl, fun _ => ⟨rfl, rfl, rfl, rfl, rfl, rfl⟩, .inr (.inr rfl), l0, by omega⟩, by decide⟩
      · rw [if_neg q, show max Q lo = Q by omega]
        unfold tickEnd
        by_cases q2 : Q ≥ hi
        · rw [if_pos q2]
          by_cases q3 : Q = hi
          · subst q3
            rw [show min Q Q = Q by omega, if_pos rfl, if_pos rfl]
            exact ⟨_, _, _, _, _, _, _, _, _, _, _, _, rfl, rfl, ⟨G, b0, b1, fun h => absurd rfl h, (fun h => by cases h), .inl rfl, b0, b1⟩, by decide⟩
          · rw [show min Q hi = hi by omega, if_neg (show ¬ hi = Q by omega), rset_f _ _ _ _ _ _ _ h2 (by omega), Option.bind_some, if_pos rfl]
            dsimp only
            exact ⟨_, _, _, _, _, _, _, _, _, _, _, _, rfl, rfl, ⟨ci_new S h0 h2 (by omega) (by omega), by omega, by omega, fun h => absurd rfl h, (fun h => by cases h), .inl rfl, by omega, by omega⟩, by decide⟩
        · rw [if_neg q2, show min Q hi = Q by omega, if_pos rfl, if_neg (by omega)]
          exact ⟨_, _, _, _, _, _, _, _, _, _, _, _, rfl, rfl, ⟨G, b0, b1, fun _ => rfl, fun _ => ⟨rfl, rfl, rfl, rfl, rfl, rfl⟩, .inr (.inr rfl), b0, b1⟩, by decide⟩
  · have hm' : mayV now lo hi = false := by simpa using hm
    rw [hm', if_neg (by decide), if_neg (by decide)]
    exact ⟨_, _, _, _, _, _, _, _, _, _, _, _, rfl, rfl, I, by rintro rfl; decide⟩
def Both (x : Option (Int × DSt)) (y : Option (Int × RSt)) : Prop :=
  ∃ e m p n d has s P R cn cd rp rs rP rR, x = some (e, m, p, n, d, has, s, P, R, cn, cd) ∧ y = some (e, m, rp, rs, rP, rR, n, d) ∧ PR m p n d has s P R cn cd rp rs rP rR
theorem pause_both {m p n d s P R cn cd rp rs rP rR now lo hi : Int} {has : Bool} (I : PR m p n d has s P R cn cd rp rs rP rR) (h0 : 0 ≤ now) (l0 : 0 ≤ lo) (K : Nat) :
    Both (deck_Deck_Pause.f m p n d has s P R cn cd now lo hi) (tikref22_Deck_Pause.f (K + 30) m rp rs rP rR n d now lo hi) := by
  have ht := tick_both (hi := hi) I h0 l0 K
  unfold deck_Deck_Pause.f tikref22_Deck_Pause.f refMay.f
  rw [ref_mayV, Option.bind_some]
  by_cases hm : mayV now lo hi = true
  · obtain ⟨h1, h2, h3⟩ := mayV_parts hm
    rw [if_pos hm, hm, if_pos rfl]
    rcases I.mode with rfl | rfl | rfl
    · rw [if_neg (by decide), if_neg (by decide), Option.bind_some, if_pos rfl, if_pos rfl, stand_f _ _ _ _ _ _ _ _ _ h2 h3, Option.bind_some]
      dsimp only
      exact ⟨_, _, _, _, _, _, _, _, _, _, _, _, _, _, _, rfl, rfl, ⟨ci_new I.I.S h0 h2 (by omega) h3, by omega, h3, fun _ => rfl, (fun h => by cases h), .inr (.inl rfl), by omega, h3⟩⟩
    · rw [if_neg (by decide), if_neg (by decide), Option.bind_some]
      dsimp only
      rw [if_neg (by decide), if_neg (by decide), if_neg (by decide)]
      exact ⟨_, _, _, _, _, _, _, _, _, _, _, _, _, _, _, rfl, rfl, I⟩
    · obtain ⟨m', p', has', s', P', R', cn', cd', rp', rs', rP', rR', e1, e2, I', hne⟩ := ht
      rw [if_pos rfl, if_pos rfl, e1, Option.bind_some, e2, Option.bind_some]
      dsimp only
      rcases I'.mode with rfl | rfl | rfl
      · rw [if_pos rfl, if_pos rfl, stand_f _ _ _ _ _ _ _ _ _ h2 h3, Option.bind_some]
        dsimp only
        exact ⟨_, _, _, _, _, _, _, _, _, _, _, _, _, _, _, rfl, rfl, ⟨ci_new I'.I.S h0 h2 (by omega) h3, by omega, h3, fun _ => rfl, (fun h => by cases h), .inr (.inl rfl), by omega, h3⟩⟩
      · rw [if_neg (by decide), if_neg (by decide), if_neg (by decide)]
        exact ⟨_, _, _, _, _, _, _, _, _, _, _, _, _, _, _, rfl, rfl, I'⟩
      · rw [if_neg (by decide), if_pos rfl, if_neg (by decide)]
        exact ⟨_, _, _, _, _, _, _, _, _, _, _, _, _, _, _, rfl, rfl, ⟨I'.I, I'.p0, I'.p1, fun _ => I'.same (by decide), (fun h => by cases h), .inr (.inl rfl), I'.q0, I'.q1⟩⟩
  · have hm' : mayV now lo hi = false := by simpa using hm
    rw [hm', if_neg (by decide), if_neg (by decide)]
    exact ⟨_, _, _, _, _, _, _, _, _, _, _, _, _, _, _, rfl, rfl, I⟩
theorem play_both {m p n d s P R cn cd rp rs rP rR now lo hi : Int} {has : Bool} (I : PR m p n d has s P R cn cd rp rs rP rR) (h0 : 0 ≤ now) (l0 : 0 ≤ lo) :
    Both (deck_Deck_Play.f m p n d has s P R cn cd now lo hi) (tikref22_Deck_Play.f m rp rs rP rR n d now lo hi) := by
  unfold deck_Deck_Play.f tikref22_Deck_Play.f refMay.f
  rw [ref_mayV, Option.bind_some]
  by_cases hm : mayV now lo hi = true
  · obtain ⟨h1, h2, h3⟩ := mayV_parts hm
    rw [if_pos hm, hm, if_pos rfl]
    rcases I.mode with rfl | rfl | rfl
    · rw [if_pos rfl, if_pos rfl]
      exact ⟨_, _, _, _, _, _, _, _, _, _, _, _, _, _, _, rfl, rfl, I⟩
    · have hs := I.same (by decide)
      subst hs
      have p0 := I.p0
      have e : clock_New.f now (min (max rp lo) hi) n d = some (now, min (max rp lo) hi, 0, n, d, 0) := if_pos ⟨I.I.S.may, h2, by omega⟩
      unfold deck_Deck_plays.f
      rw [if_neg (by decide), if_pos rfl, if_neg (by decide), if_pos rfl, e, mx_max7, mn_min7, stand_f _ _ _ _ _ _ _ _ _ h2 (by omega)]
      simp only [Option.bind_some]
      exact ⟨_, _, _, _, _, _, _, _, _, _, _, _, _, _, _, rfl, rfl, ⟨ci_new I.I.S h0 h2 (by omega) (by omega), by omega, by omega, fun _ => rfl, fun _ => ⟨rfl, rfl, rfl, rfl, rfl, rfl⟩, .inr (.inr rfl), by omega, by omega⟩⟩
    · rw [if_neg (by decide), if_neg (by decide), if_neg (by decide), if_neg (by decide)]
      exact ⟨_, _, _, _, _, _, _, _, _, _, _, _, _, _, _, rfl, rfl, I⟩
  · have hm' : mayV now lo hi = false := by simpa using hm
    rw [hm', if_neg (by decide), if_neg (by decide)]
    exact ⟨_, _, _, _, _, _, _, _, _, _, _, _, _, _, _, rfl, rfl, I⟩
theorem seek_both {m p n d s P R cn cd rp rs rP rR now lo hi t : Int} {has : Bool} (I : PR m p n d has s P R cn cd rp rs rP rR) (h0 : 0 ≤ now) (l0 : 0 ≤ lo) :
    Both (deck_Deck_Seek.f m p n d has s P R cn cd now lo hi t) (tikref22_Deck_Seek.f m rp rs rP rR n d now lo hi t) := by
  unfold deck_Deck_Seek.f tikref22_Deck_Seek.f refMay.f
  rw [ref_mayV, Option.bind_some]
  by_cases hm : mayV now lo hi = true
  · obtain ⟨h1, h2, h3⟩ := mayV_parts hm
    rw [if_pos hm, hm, if_pos rfl]
    by_cases q : t < lo
    · rw [if_pos q, if_pos q]
      exact ⟨_, _, _, _, _, _, _, _, _, _, _, _, _, _, _, rfl, rfl, I⟩
    · rw [if_neg q, if_neg q, mn_min7, stand_f _ _ _ _ _ _ _ _ _ h2 (by omega), Option.bind_some]
      dsimp only
      have S := I.I.S
      rcases I.mode with rfl | rfl | rfl
      · rw [if_neg (by decide), if_pos rfl]
        exact ⟨_, _, _, _, _, _, _, _, _, _, _, _, _, _, _, rfl, rfl, ⟨ci_new S h0 h2 (by omega) (by omega), by omega, by omega, fun _ => rfl, (fun h => by cases h), .inr (.inl rfl), by omega, by omega⟩⟩
      · rw [if_neg (by decide), if_neg (by decide)]
        exact ⟨_, _, _, _, _, _, _, _, _, _, _, _, _, _, _, rfl, rfl, ⟨ci_new S h0 h2 (by omega) (by omega), by omega, by omega, fun _ => rfl, (fun h => by cases h), .inr (.inl rfl), by omega, by omega⟩⟩
      · have e : clock_New.f now (min t hi) n d = some (now, min t hi, 0, n, d, 0) := if_pos ⟨S.may, h2, by omega⟩
        unfold deck_Deck_plays.f
        rw [if_pos rfl, if_neg (by decide), e]
        simp only [Option.bind_some]
        exact ⟨_, _, _, _, _, _, _, _, _, _, _, _, _, _, _, rfl, rfl, ⟨ci_new S h0 h2 (by omega) (by omega), by omega, by omega, fun _ => rfl, fun _ => ⟨rfl, rfl, rfl, rfl, rfl, rfl⟩, .inr (.inr rfl), by omega, by omega⟩⟩
  · have hm' : mayV now lo hi = false := by simpa using hm
    rw [hm', if_neg (by decide), if_neg (by decide)]
    exact ⟨_, _, _, _, _, _, _, _, _, _, _, _, _, _, _, rfl, rfl, I⟩
theorem speed_both {m p n d s P R cn cd rp rs rP rR now : Int} {has : Bool} {x : Nat} (I : PR m p n d has s P R cn cd rp rs rP rR) (h0 : 0 ≤ now) (hu : now < 18446744073709551616) (hx : x < 18446744073709551616) (K : Nat) :
    Both (deck_Deck_Speed.f (K + 30) m p n d has s P R cn cd now x) (tikref22_Deck_Speed.f (K + 30) m rp rs rP rR n d now x) := by
  have e1 : rate_Of.f x = some (ofV x) := if_pos hx
  have e2 := ref_of (K + 7) hx
  unfold deck_Deck_Speed.f tikref22_Deck_Speed.f
  rw [e1, Option.bind_some, show K + 30 = K + 7 + 23 by omega, e2, Option.bind_some]
  rcases of_cases x with ⟨n2, d2, e, S2⟩ | ⟨n2, d2, c, e, hc⟩
  · rw [e]
    dsimp only
    rw [if_pos rfl, if_pos rfl]
    by_cases q : now > 4611686018427387904
    · rw [if_pos q, if_pos q]
      exact ⟨_, _, _, _, _, _, _, _, _, _, _, _, _, _, _, rfl, rfl, I⟩
    · obtain ⟨a, b, c, f⟩ : U64 n2 ∧ U64 d2 ∧ True ∧ True := ⟨⟨S2.n0, by have := S2.n1; omega⟩, ⟨by have := S2.d1; omega, by have := S2.d2; omega⟩, trivial, trivial⟩
      obtain ⟨ee, s', P', R', n', d', t1, t2, I'⟩ := turn_both I.I ⟨h0, hu⟩ a b
      have t3 := turn_any I.I.S S2 I.I.T h0 (by omega) 0
      have t4 := t1 0
      rw [t3] at t4
      obtain ⟨rfl, _, _, _, rfl, rfl⟩ : (0 : Int) = ee ∧ _ ∧ _ ∧ _ ∧ n2 = n' ∧ d2 = d' := by simpa using Option.some.inj t4
      have t2' := t2 K
      rw [show K + 30 = K + 7 + 23 by omega] at t2'
      have t1' := t1 (K + 29)
      rw [show K + 29 + 1 = K + 7 + 23 by omega] at t1'
      rw [if_neg q, if_neg q, t2', Option.bind_some]
      dsimp only
      by_cases hm : m = 2
      · obtain ⟨rfl, rfl, rfl, rfl, rfl, rfl⟩ := I.plays hm
        rw [if_pos hm, if_pos rfl, t1', Option.bind_some]
        subst hm
        exact ⟨_, _, _, _, _, _, _, _, _, _, _, _, _, _, _, rfl, rfl, ⟨I', I.p0, I.p1, I.same, fun _ => ⟨rfl, rfl, rfl, rfl, rfl, rfl⟩, .inr (.inr rfl), I.q0, I.q1⟩⟩
      · rw [if_neg hm]
        exact ⟨_, _, _, _, _, _, _, _, _, _, _, _, _, _, _, rfl, rfl, ⟨I', I.p0, I.p1, I.same, fun h => absurd h hm, I.mode, I.q0, I.q1⟩⟩
  · rw [e]
    dsimp only
    rw [if_neg hc, if_neg hc]
    exact ⟨_, _, _, _, _, _, _, _, _, _, _, _, _, _, _, rfl, rfl, I⟩
theorem both_bind {x : Option (Int × DSt)} {y : Option (Int × RSt)} (h : Both x y) : Both (x.bind fun b => some (b.1, b.2.1, b.2.2.1, b.2.2.2.1, b.2.2.2.2.1, b.2.2.2.2.2.1, b.2.2.2.2.2.2.1, b.2.2.2.2.2.2.2.1, b.2.2.2.2.2.2.2.2.1, b.2.2.2.2.2.2.2.2.2.1, b.2.2.2.2.2.2.2.2.2.2)) (y.bind fun b => some (b.1, b.2.1, b.2.2.1, b.2.2.2.1, b.2.2.2.2.1, b.2.2.2.2.2.1, b.2.2.2.2.2.2.1, b.2.2.2.2.2.2.2)) := by
  obtain ⟨e, m, p, n, d, has, s, P, R, cn, cd, rp, rs, rP, rR, rfl, rfl, I⟩ := h
  exact ⟨e, m, p, n, d, has, s, P, R, cn, cd, rp, rs, rP, rR, rfl, rfl, I⟩
theorem does_both {m p n d s P R cn cd rp rs rP rR k now lo hi t : Int} {has : Bool} {x : Nat} (I : PR m p n d has s P R cn cd rp rs rP rR) (h0 : U64 now) (l0 : 0 ≤ lo) (hx : x < 18446744073709551616) (K : Nat) :
    Both (tiklaw23_Does.f (K + 30) m p n d has s P R cn cd k now lo hi t x) (tiklaw23_plain.f (K + 30) m rp rs rP rR n d k now lo hi t x) := by
  unfold tiklaw23_Does.f tiklaw23_plain.f
  by_cases q0 : k = 0
  · rw [if_pos q0, if_pos q0]
    exact ⟨_, _, _, _, _, _, _, _, _, _, _, _, _, _, _, rfl, rfl, ⟨I.I, I.p0, I.p1, fun h => absurd rfl h, (fun h => by cases h), .inl rfl, I.q0, I.q1⟩⟩
  rw [if_neg q0, if_neg q0]
  by_cases q1 : k = 1
  · rw [if_pos q1, if_pos q1]
    exact both_bind (pause_both I h0.1 l0 K)
  rw [if_neg q1, if_neg q1]
  by_cases q2 : k = 2
  · rw [if_pos q2, if_pos q2]
    exact both_bind (play_both I h0.1 l0)
  rw [if_neg q2, if_neg q2]
  by_cases q3 : k = 3
  · rw [if_pos q3, if_pos q3]
    exact both_bind (seek_both I h0.1 l0)
  rw [if_neg q3, if_neg q3]
  by_cases q4 : k = 4
  · rw [if_pos q4, if_pos q4]
    exact both_bind (speed_both I h0.1 h0.2 hx K)
  rw [if_neg q4, if_neg q4]
  obtain ⟨m', p', has', s', P', R', cn', cd', rp', rs', rP', rR', e1, e2, I', _⟩ := tick_both (hi := hi) I h0.1 l0 K
  rw [e1, e2]
  exact ⟨_, _, _, _, _, _, _, _, _, _, _, _, _, _, _, rfl, rfl, I'⟩
structure OkOp (o : S36) : Prop where
  h1 : U64 o.f1
  h2 : 0 ≤ o.f2
  h5 : o.f5 < 18446744073709551616
theorem rd_op {l : List S36} (h : ∀ o ∈ l, OkOp o) (i : Nat) (hi : i < l.length) : OkOp (rd_T36 l (i : Int)) := by
  unfold rd_T36
  rw [Int.toNat_natCast, List.getD_eq_getElem?_getD, List.getElem?_eq_getElem hi]
  exact h _ (List.getElem_mem hi)
theorem plays_l0 (l : List S36) (hl : l.length ≤ 200) (hw : ∀ o ∈ l, OkOp o) : ∀ (j K i : Nat) (m p n d : Int) (has : Bool) (s P R cn cd rp rs rP rR : Int), i + j = l.length → PR m p n d has s P R cn cd rp rs rP rR →
    tiklaw23_DeckPlays.l0 (K + 2 * j + 32) l (i : Int) m p n d has s P R cn cd m rp rs rP rR n d = some true := by
  intro j
  induction j with
  | zero =>
    intro K i m p n d has s P R cn cd rp rs rP rR hi I
    rw [tiklaw23_DeckPlays.l0, if_neg (by omega), dfirst_true]; rfl
  | succ j ih =>
    intro K i m p n d has s P R cn cd rp rs rP rR hi I
    have ho := rd_op hw i (by omega)
    have w3 : wrap64 ((i : Int) + 1) = ((i + 1 : Nat) : Int) := by rw [IntWalk.wrap64_in _ (by omega)]; omega
    rw [show K + 2 * (j + 1) + 32 = (K + 2 * j + 3 + 30) + 1 by omega, tiklaw23_DeckPlays.l0, if_pos (by omega), drate_f, Option.bind_some, if_pos (by omega)]
    dsimp only
    generalize rd_T36 l (i : Int) = o at *
    obtain ⟨e, m', p', n', d', has', s', P', R', cn', cd', rp', rs', rP', rR', e1, e2, I'⟩ := does_both (k := o.f0) (hi := o.f3) (t := o.f4) I ho.h1 ho.h2 ho.h5 (K + 2 * j + 3)
    have e3 : refPlain.f (K + 2 * j + 3 + 30) m rp rs rP rR n d o.f0 o.f1 o.f2 o.f3 o.f4 o.f5 = _ := e2
    have go : tiklaw23_DeckPlays.j1 (K + 2 * j + 3 + 30) l (i : Int) false m' p' n' d' has' s' P' R' cn' cd' m' rp' rs' rP' rR' n' d' = some true := by
      rw [show K + 2 * j + 3 + 30 = (K + 2 * j + 32) + 1 by omega, tiklaw23_DeckPlays.j1, if_neg (by decide), drate_f, Option.bind_some]
      dsimp only
      rw [show refRate.f m' rp' rs' rP' rR' n' d' = some (n', d', m', rp', rs', rP', rR', n', d') from rfl, Option.bind_some]
      dsimp only
      rw [beq_self_eq_true, beq_self_eq_true, if_neg (by decide), w3]
      exact ih K (i + 1) _ _ _ _ _ _ _ _ _ _ _ _ _ _ (by omega) I'
    rw [e1, Option.bind_some, e3, Option.bind_some]
    dsimp only
    rw [if_pos rfl, mode_f, Option.bind_some]
    dsimp only
    rw [if_pos rfl, mode_f, Option.bind_some]
    dsimp only
    by_cases q : m' = 0
    · rw [if_pos q]
      exact go
    · rw [if_neg q, pos_f, Option.bind_some]
      dsimp only
      rw [I'.same q, show (p' != p') = false by simp]
      rw [I'.same q] at go
      exact go
theorem plays_any (l : List S36) (K : Nat) (hK : l.length = K) (hw : ∀ o ∈ l, OkOp o) : tiklaw23_DeckPlays.f (2 * K + 32) l = some true := by
  unfold tiklaw23_DeckPlays.f
  rw [show 2 * K + 32 = (2 * K + 31) + 1 by omega, dfirst_true, Option.bind_some, if_pos rfl]
  by_cases q : (l.length : Int) > 200
  · rw [if_pos q]; rfl
  · rw [if_neg q, new_f, Option.bind_some]
    have hn : refNew.f = some (0, 0, 0, 0, 0, 1, 1) := rfl
    rw [hn, Option.bind_some, if_neg (by decide)]
    dsimp only
    have h := plays_l0 l (by omega) hw K 0 0 0 0 1 1 false 0 0 0 0 0 0 0 0 0 (by omega) ⟨ci_new ⟨by decide +kernel, by omega, by omega, by omega, by omega⟩ (by omega) (by omega) (by omega) (by omega), by omega, by omega, fun h => absurd rfl h, (fun h => by cases h), .inl rfl, by omega, by omega⟩
    rw [show 0 + 2 * K + 32 = 2 * K + 31 + 1 by omega] at h
    exact h
end Go.Proofs.YtlgfmmkabnbllaaDoor.Hand
namespace Go.Proofs.YtlgfmmkabnbllaaDoor.RowDeckPlays
open Go.ChangeShapes Go.WideShapes Go.ChangeAt Go.RowKit
open Go.ChangeMaps (open_string shut_string)
open Go.Proofs.YtlgfmmkabnbllaaDoorW.PrintWords Go.Proofs.YtlgfmmkabnbllaaDoor.Opens
open Go.Proofs.YtlgfmmkabnbllaaDoor.Hand
open Go.Proofs.YtlgfmmkabnbllaaDoor.PV
open Go.Proofs.YtlgfmmkabnbllaaDoor
set_option linter.unusedVariables false
set_option linter.unusedSimpArgs false
theorem ownK : ownKnob Tryd.prog.godebug = none := by kernel_rfl
theorem laidOut : laidOutB Tryd.prog = true := by kernel_rfl
theorem o36 : Opens Tryd.prog 36 PV.k36 (fun b => (Lit.int .i64 b.f0).wf = true ∧ (Lit.int .u64 b.f1).wf = true ∧ (Lit.int .u64 b.f2).wf = true ∧ (Lit.int .u64 b.f3).wf = true ∧ (Lit.int .u64 b.f4).wf = true ∧ (Lit.float .f64 b.f5).wf = true) := o_map (f := fun x : PV.S36 => (x.f0, x.f1, x.f2, x.f3, x.f4, x.f5)) (o_struct Tryd.underlying36 (by kernel_rfl) (f_cons rfl (by kernel_rfl) (o_int Tryd.underlying3) (f_cons rfl (by kernel_rfl) (o_int Tryd.underlying28) (f_cons rfl (by kernel_rfl) (o_int Tryd.underlying28) (f_cons rfl (by kernel_rfl) (o_int Tryd.underlying28) (f_cons rfl (by kernel_rfl) (o_int Tryd.underlying28) (f_last rfl (by kernel_rfl) (o_float Tryd.underlying34)))))))) (fun p => ⟨p.1, p.2.1, p.2.2.1, p.2.2.2.1, p.2.2.2.2.1, p.2.2.2.2.2⟩) (fun _ => rfl)
abbrev laid2 : List (String × DataW Unit) := [("math/bits.deBruijn64tab", Rows.laid_math_bits_deBruijn64tab)]
set_option maxRecDepth 100000 in
theorem door_met (os : Os) (args : Array Value) : laidMetH Tryd.prog laid2 ((World.doorLaid Tryd.prog 400 os).forCall (fun _ _ => 0) ⟨#[], args, []⟩).memory :=
  laidMetH_of_parts3 (fuel := 8) (laidMet_of_run' 8 (by kernel_rfl) (by kernel_rfl)) (by kernel_rfl) (by kernel_rfl)
set_option maxRecDepth 100000 in
theorem lifted (os : Os) (started : os.Started) (H : Type) (enc : TypeId × Value → H) :
    ReturnsInHanded {} Tryd.checked os 3 .any (fun w args => (Rows.deckPlaysSpec.pre enc Tryd.prog Tryd.f3 [] false w args ∧ laidMetH Tryd.prog laid2 w) ∧ sizedMet enc Tryd.prog Tryd.f3 (OpenSpec.ofChange Rows.deckPlaysSpec) false w args)
      (Rows.deckPlaysSpec.post enc Tryd.prog Tryd.f3 false true false false) := by
  refine returnsInHanded_of_change_and (C := Tryd.checked) (X := fun w _ => laidMetH Tryd.prog laid2 w) (fun _ _ _ hh h => h.of_heap hh) ownK started (by kernel_rfl) Tryd.func3
    (ChangeSpec.witness_shaped (enc := enc) (C := Tryd.checked) (os := os) (X := fun w _ => laidMetH Tryd.prog laid2 w) false (World.doorLaid Tryd.prog 400 os) #[.slice none 0 0] 8 rfl (World.shaped_of_RefB (by kernel_rfl) (by kernel_rfl)) (by kernel_rfl) (by kernel_rfl) (by kernel_rfl) (door_met os _)) ?_
  intro W base args ds gs before hval0 hW _ hsz0 hT _
  have hsz : (DataW.weightsEach Tryd.prog (Tryd.f3.params.toList ++ Rows.deckPlaysSpec.plain.varTypes Tryd.prog) (ds ++ gs)).all (· ≤ reachBytes) = true := hsz0
  have hval : ∀ (j : Nat) t v, Tryd.f3.params[j]? = some t → args[j]? = some v → Value.okWide Tryd.prog W .any base t v := hval0
  have hW' := hW
  obtain ⟨p, q, hA0, hV, rfl, hfz, hnd⟩ := hW
  have hA : DataW.TrodAll enc Tryd.prog W 0 (fun _ => true) true Tryd.f3.params.toList args.toList ds p := hA0
  rw [Tryd.params3] at hA hval hsz
  obtain ⟨v0, vs0, d0, ds0, p0, q0, hargs, rfl, rfl, h0, r0⟩ := trodAll_cons hA
  obtain ⟨rfl, rfl, rfl⟩ := trodAll_nil r0
  obtain rfl : args = #[v0] := by cases args; simp_all
  obtain ⟨rfl, rfl⟩ := trodVars_none hV
  have k0 := h0
  have lt0 : ∀ x ∈ p0, x.block < W.heap.size := by obtain ⟨m, hm⟩ := k0; exact DataW.trod_lt m _ _ _ hm
  obtain ⟨l0, ⟨A0, c0, e0, hc0, hC0⟩, q0⟩ := open_arg (o_slice Tryd.underlying22 (by kernel_rfl) o36) h0
  obtain ⟨_, _, _, z0⟩ := okWide_slice Tryd.underlying22 (hval 0 22 v0 rfl rfl)
  obtain rfl : v0 = .slice A0 l0.length c0 := by subst z0; simpa [Value.cells] using e0
  have y0 := sized_any hsz (j := 0) (t := 22) rfl rfl Tryd.underlying22 h0
  clear hA0 hval0
  refine (tiklaw23_DeckPlays.calls (2 * l0.length + 32) A0 c0 l0 true W hC0 hc0 (tabW_of hT) ⟨rfl⟩ (plays_any l0 l0.length rfl (fun o ho => by have z := q0.2 o ho; exact ⟨by have := bounds_u64 z.2.1; unfold U64; omega, by have := bounds_u64 z.2.2.1; omega, f64_lt z.2.2.2.2.2⟩))).mono fun e W' ⟨he, bel⟩ => ?_
  subst he
  exact ⟨_, rfl, _, _, _, [], _, [], hW', trodAll_mk1 (shut_bool Tryd.underlying4 _), (trodAll_cons_mk (Below.trod laidOut (by kernel_rfl) (of_decide_eq_true (by kernel_rfl)) k0 bel lt0) trodAll_mk0), rfl, bel.frame _, fun h => by cases h⟩
theorem over : Rows.deckPlaysRow.holds Tryd.pinned (OpenSpec.ofChange Rows.deckPlaysSpec) :=
  OpenClaim.holds_of_wide 3 Tryd.f3 rfl rfl rfl rfl rfl rfl rfl ⟨rfl, rfl, rfl, rfl, rfl⟩ rfl rfl rfl rfl rfl (by kernel_rfl) Tryd.func3 (by kernel_rfl)
    (of_decide_eq_true (by kernel_rfl)) (by unfold Func.isWrapper; first | (rw [if_pos (by decide +kernel)]; kernel_rfl) | (rw [if_neg (by decide +kernel)]; exact ⟨rfl, rfl⟩))
    (fun os started H enc _ => lifted os started H enc)
theorem card : Rows.DeckPlaysCardSaid :=
  Claim7.holds_tied_plain_at .later [] [.data] true (true, "f4cce56c052b8147ed0d96dfe40f3886e39b5e64f551fd0da9ae368612f96104") true
    over (fun _ h => by cases h) (by kernel_rfl) (fun _ h => by cases h) deckPlays_row_tie rfl ⟨rfl, rfl⟩ (by kernel_rfl) rfl
    (fun f fn hf hfn => by
      obtain rfl : f = 3 := Option.some.inj ((show Tryd.prog.funcNamed "tickertape/tiklaw23.DeckPlays" = some 3 by kernel_rfl).symm.trans hf) |>.symm
      obtain rfl : fn = Tryd.f3 := (Option.some.inj (Tryd.func3.symm.trans hfn)).symm
      exact ⟨by kernel_rfl, fun j t ht => by
        rw [Tryd.params3] at ht
        have hm : t ∈ [22] := by simpa using Array.mem_of_getElem? ht
        have hall : ([22].all fun u => !Tryd.prog.wantsStandIn u) = true := by kernel_rfl
        exact (show Tryd.prog.wantsStandIn t = false by simpa using List.all_eq_true.1 hall t hm)⟩)
    (by kernel_rfl)
#print axioms card
end Go.Proofs.YtlgfmmkabnbllaaDoor.RowDeckPlays
namespace Go.Proofs.YtlgfmmkabnbllaaDoor
theorem deckPlays_holds : Rows.DeckPlaysCardSaid := RowDeckPlays.card
end Go.Proofs.YtlgfmmkabnbllaaDoor
