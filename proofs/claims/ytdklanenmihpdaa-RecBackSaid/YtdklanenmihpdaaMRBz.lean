/- Texts of this claim, put together. -/
import Derived.Test.YtdklanenmihpdaaMRBb
import Derived.Test.YtdklanenmihpdaaMRBc
import Derived.Test.YtdklanenmihpdaaRows
import Derived.Test.YtdklanenmihpdaaMRBa
import Derived.WalkKit
import Derived.ProofKit
import Derived.OpenShut
import Derived.ShutString
import Derived.ChangeOld
import Derived.Below
import Derived.SizedLaws
set_option linter.unusedVariables false
set_option linter.unusedSimpArgs false
namespace Go.Proofs.Ytdklanenmihpdaa.Hand
open Go.RowKit Go.Proofs.YtdklanenmihpdaaW.PrintWords Go.Proofs.YtdklanenmihpdaaW.PrintLast Go.Proofs.YtdklanenmihpdaaW.PrintMore Go.Proofs.Ytdklanenmihpdaa.PA Go.Proofs.Ytdklanenmihpdaa.PL
theorem rback_j2 (k : Nat) (hk : 40000 ≤ k) {a0 a1 a2 x4 x5 : Int} {l : List Int} (h : MayR a0 a1 a2 l) (hl : Bytes255 l) (ll : l.length ≤ 3000) (h4 : 0 ≤ x4) (h5 : 0 < x5 ∧ x5 < 256) :
    tiklaw15_RecBack.j2 (k + 1) x4 x5 (encL a0 a1 a2 l) false a0 a1 a2 l = some true := by
  have hE := enc_bytes h hl
  have sE := enc_small h ll
  have eE := enc_len a0 a1 a2 l
  generalize hE' : encL a0 a1 a2 l = E at *
  have hw : wrap64 ((E.length : Int) - 2) = (E.length : Int) - 2 := IntWalk.wrap64_in _ (by omega)
  have t0 : 0 ≤ Int.tmod x4 ((E.length : Int) - 2) := Int.tmod_nonneg _ h4
  have t1 : Int.tmod x4 ((E.length : Int) - 2) < (E.length : Int) - 2 := Int.tmod_lt_of_pos _ (by omega)
  obtain ⟨i, hi⟩ : ∃ i : Nat, 2 + Int.tmod x4 ((E.length : Int) - 2) = (i : Int) := ⟨(2 + Int.tmod x4 ((E.length : Int) - 2)).toNat, by omega⟩
  have hw2 : wrap64 (2 + Int.tmod x4 ((E.length : Int) - 2)) = (i : Int) := by rw [hi]; exact IntWalk.wrap64_in _ (by omega)
  have hil : i < E.length := by omega
  have hx := rd_255 hE (i : Int)
  have hx2 := xor_ne (rd E (i : Int)) x5 hx h5
  have hb : Bytes255 (E.set i (Go.bits .xor .u8 (rd E (i : Int)) x5)) := by
    intro x hx'
    rcases List.mem_or_eq_of_mem_set hx' with h | h
    · exact hE x h
    · rw [h]; exact hx2.1
  have hne : E.set i (Go.bits .xor .u8 (rd E (i : Int)) x5) ≠ E := by
    intro e
    have e2 : (E.set i (Go.bits .xor .u8 (rd E (i : Int)) x5))[i]? = E[i]? := by rw [e]
    rw [List.getElem?_set_self hil] at e2
    have e3 : rd E (i : Int) = Go.bits .xor .u8 (rd E (i : Int)) x5 := by
      conv => lhs; unfold rd
      rw [Int.toNat_natCast, List.getD_eq_getElem?_getD, ← e2]; rfl
    exact hx2.2 (by rw [← e3])
  have hlen : (E.set i (Go.bits .xor .u8 (rd E (i : Int)) x5)).length = E.length := List.length_set
  rw [tiklaw15_RecBack.j2, hw, hw2]
  refine (if_neg (by simp)).trans ?_
  rw [rcopy_f E (by omega), Option.bind_some]
  refine (if_neg (by omega)).trans ((if_pos (by omega)).trans ((if_pos (by omega)).trans ?_))
  rw [Option.bind_some, Int.toNat_natCast]
  generalize E.set i (Go.bits .xor .u8 (rd E (i : Int)) x5) = T at *
  rw [dec_f T 0 hb (by omega) (by omega) (by omega), Option.bind_some]
  cases hd : decV T 0 with
  | error x =>
    have hx0 : x ≠ 0 := decV_nz hd
    refine (if_neg ?_).trans ?_
    · exact hx0
    · rw [rfirst_f k hk]; rfl
  | ok r =>
    obtain ⟨k', s', t', b', e'⟩ := r
    obtain ⟨f1, hM, f3, f4, f5⟩ := dec_inv hb (by omega) hd
    have eT := enc_len k' s' t' b'
    refine (if_pos rfl).trans ?_
    rw [rfirst_f k hk, Option.bind_some]
    refine (if_pos rfl).trans ((if_pos (show e' ≤ (E.length : Int) by omega)).trans ?_)
    have hns : ¬ (k' = a0 ∧ s' = a1 ∧ t' = a2 ∧ b' = l) := by
      rintro ⟨rfl, rfl, rfl, rfl⟩
      rw [hE'] at f1 f3
      have : segL T 0 e' = T := by
        unfold segL
        rw [show (0 : Int).toNat = 0 from rfl, List.drop_zero, List.take_of_length_le (by omega)]
      rw [this] at f1
      exact hne f1
    dsimp only [decOut]
    rw [same_f f5 hl, Option.bind_some, decide_eq_false hns]
    refine (if_neg (by simp)).trans ((if_pos (by omega)).trans ?_)
    have g1 : (T.take e'.toNat).drop 6 = bodyL k' s' t' b' := by
      have : T.take e'.toNat = encL k' s' t' b' := by rw [← f1]; unfold segL; rw [show (0 : Int).toNat = 0 from rfl, List.drop_zero]
      rw [this]; rfl
    have g2 : (T.take 6).drop 2 = fourL (crcV (bodyL k' s' t' b')) := by
      have : T.take e'.toNat = encL k' s' t' b' := by rw [← f1]; unfold segL; rw [show (0 : Int).toNat = 0 from rfl, List.drop_zero]
      have h6 : T.take 6 = (encL k' s' t' b').take 6 := by rw [← this, List.take_take, Nat.min_eq_left (by omega)]
      rw [h6]; rfl
    have hbl : (bodyL k' s' t' b').length + 6 = (encL k' s' t' b').length := by simp [encL, fourL]
    have hc := refCrc_any k (bodyL k' s' t' b') (by omega) (body_bytes hM f5) (by omega)
    rw [g1, hc, Option.bind_some, g2]
    refine (if_pos (by omega)).trans ((if_pos (by omega)).trans ?_)
    rw [big_four k (by omega) _ (crcV_bound _), Option.bind_some]
    have := crcV_bound (bodyL k' s' t' b')
    rw [Int.emod_eq_of_lt this.1 this.2]; simp
theorem recBack_any (k : Nat) (hk : 40000 ≤ k) (a0 a1 a2 a3 a4 a5 : Int) (l l1 l2 : List Int) (h1 : 0 ≤ a1 ∧ a1 < 18446744073709551616) (h2 : 0 ≤ a2 ∧ a2 < 18446744073709551616) (h5 : 0 ≤ a5 ∧ a5 < 256) (hl : Bytes255 l) (hl1 : Bytes255 l1) (hl2 : Bytes255 l2) :
    tiklaw15_RecBack.f (k + 1 + 1 + 1) a0 a1 a2 l l1 l2 a3 a4 a5 = some true := by
  have J0 : tiklaw15_RecBack.j0 (k + 1 + 1 + 1) l1 l2 a3 a4 a5 true a0 a1 a2 l = some true := by
    rw [tiklaw15_RecBack.j0]; refine (if_pos rfl).trans ?_; rw [rfirst_f _ (by omega)]; rfl
  unfold tiklaw15_RecBack.f
  rw [rfirst_f _ (by omega), Option.bind_some]
  refine (if_pos rfl).trans ?_
  by_cases c1 : (l.length : Int) > 3000
  · exact (if_pos c1).trans J0
  refine (if_neg c1).trans ?_
  by_cases c2 : (l1.length : Int) > 3000
  · exact (if_pos c2).trans J0
  refine (if_neg c2).trans ?_
  by_cases c3 : (l2.length : Int) > 3000
  · exact (if_pos c3).trans J0
  refine (if_neg c3).trans ?_
  by_cases c4 : a3 < 0
  · exact (if_pos c4).trans J0
  refine (if_neg c4).trans ?_
  by_cases c5 : a4 < 0
  · exact (if_pos c5).trans J0
  refine (if_neg c5).trans ?_
  by_cases c6 : a5 = 0
  · exact (if_pos c6).trans J0
  refine (if_neg c6).trans ?_
  rw [may_f, Option.bind_some]
  by_cases ma : mayL a0 a1 a2 l.length
  case neg => rw [decide_eq_false ma]; exact J0
  rw [decide_eq_true ma]
  have h : MayR a0 a1 a2 l := ⟨ma, h1.1, h2.1⟩
  have hE := enc_bytes h hl
  have sE := enc_small h (by omega)
  have eE := enc_len a0 a1 a2 l
  have eR : 3 ≤ (restL a1 a2 l).length := by
    have v : ∀ a, 0 ≤ a → a < 18446744073709551616 → 1 ≤ (varL 9 a).length := fun a h0 h1 => by
      obtain ⟨F, c, eV, _⟩ := varL_front 9 a h0 (by simp only [Int.reducePow, Int.reduceMul]; omega)
      rw [eV]; simp
    have v1 := v a1 h.s0 h.s1
    have v2 := v a2 h.t0 h.t1
    have v3 := v (l.length : Int) (by omega) (by omega)
    simp only [restL, List.length_append]
    omega
  have j2 := rback_j2 k hk (x4 := a4) (x5 := a5) h hl (by omega) (by omega) (by omega)
  show tiklaw15_RecBack.j0 (k + 1 + 1 + 1) l1 l2 a3 a4 a5 false a0 a1 a2 l = some true
  rw [tiklaw15_RecBack.j0]
  refine (if_neg (by simp)).trans ?_
  rw [enc_f _ a0 a1 a2 l h1 h2 hl (by omega) (by omega), Option.bind_some, if_pos ma]
  refine (if_pos rfl).trans ?_
  dsimp only
  rw [decide_eq_false (by omega), tiklaw15_RecBack.j1]
  refine (if_neg (by simp)).trans ?_
  rw [rcopy_f l1 (by omega), Option.bind_some]
  refine (if_pos (by omega)).trans ?_
  rw [Option.bind_some]
  refine (if_pos (by rw [List.length_append]; omega)).trans ?_
  have hd := dec_enc l1 l2 h
  rw [← List.append_assoc] at hd
  have hb : Bytes255 ((l1 ++ encL a0 a1 a2 l) ++ l2) := fun x hx => (List.mem_append.1 hx).elim (fun hx => (List.mem_append.1 hx).elim (hl1 x) (hE x)) (hl2 x)
  rw [dec_f _ _ hb (by rw [List.length_append, List.length_append]; omega) (by omega) (by rw [List.length_append, List.length_append]; omega), hd, Option.bind_some]
  have t0 : 0 ≤ Int.tmod a3 ((encL a0 a1 a2 l).length : Int) := Int.tmod_nonneg _ (by omega)
  have t1 : Int.tmod a3 ((encL a0 a1 a2 l).length : Int) < ((encL a0 a1 a2 l).length : Int) := Int.tmod_lt_of_pos _ (by omega)
  refine (if_neg (by omega)).trans ((if_pos t0).trans ((if_pos (by omega)).trans ?_))
  obtain ⟨m, hm⟩ : ∃ m, (Int.tmod a3 ((encL a0 a1 a2 l).length : Int)).toNat = m := ⟨_, rfl⟩
  rw [hm, dec_f _ 0 (front_bytes hE m) (by rw [List.length_take]; omega) (by omega) (by omega), dec_cut h m (by omega), Option.bind_some]
  refine (if_pos rfl).trans ?_
  dsimp only [decOut]
  rw [same_f hl hl, Option.bind_some]
  have hw : wrap64 ((l1.length : Int) + ((encL a0 a1 a2 l).length : Int)) = (l1.length : Int) + ((encL a0 a1 a2 l).length : Int) := IntWalk.wrap64_in _ (by omega)
  refine (if_pos (by simp)).trans ((if_pos hw.symm).trans j2)
end Go.Proofs.Ytdklanenmihpdaa.Hand
namespace Go.Proofs.Ytdklanenmihpdaa.RowRecBack
open Go.ChangeShapes Go.WideShapes Go.ChangeAt Go.RowKit
open Go.ChangeMaps (open_string shut_string)
open Go.Proofs.YtdklanenmihpdaaW.PrintWords Go.Proofs.Ytdklanenmihpdaa.Opens
open Go.Proofs.Ytdklanenmihpdaa.Hand
set_option linter.unusedVariables false
set_option linter.unusedSimpArgs false
theorem ownK : ownKnob Try.prog.godebug = none := by kernel_rfl
theorem laidOut : laidOutB Try.prog = true := by kernel_rfl
set_option maxRecDepth 100000 in
theorem lifted (os : Os) (started : os.Started) (H : Type) (enc : TypeId × Value → H) :
    ReturnsInHanded {} Try.checked os 4 .any (Rows.recBackSpec.pre6 enc Try.prog Try.f4 Rows.recBackRow.domain false) (Rows.recBackSpec.post enc Try.prog Try.f4 false true false false) := by
  refine returnsInHanded_of_change_sized (C := Try.checked) ownK started (by kernel_rfl) Try.func4
    (ChangeSpec.witness6 (enc := enc) (C := Try.checked) false ⟨#[], #[.agg #[.int .i64 0, .int .u64 0, .int .u64 0, .slice none 0 0], .slice none 0 0, .slice none 0 0, .int .i64 0, .int .i64 0, .int .u8 0], []⟩ 8 (by kernel_rfl) (by kernel_rfl) (by kernel_rfl) (by kernel_rfl)) ?_
  intro W base args ds gs before hval0 hW hcnd hsz0 _
  have hsz : (DataW.weightsEach Try.prog (Try.f4.params.toList ++ Rows.recBackSpec.plain.varTypes Try.prog) (ds ++ gs)).all (· ≤ reachBytes) = true := hsz0
  have hval : ∀ (j : Nat) t v, Try.f4.params[j]? = some t → args[j]? = some v → Value.okWide Try.prog W .any base t v := hval0
  have hW' := hW
  obtain ⟨p, q, hA0, hV, rfl, hfz, hnd⟩ := hW
  have hA : DataW.TrodAll enc Try.prog W 0 (fun _ => true) true Try.f4.params.toList args.toList ds p := hA0
  rw [Try.params4] at hA hval hsz
  obtain ⟨v0, vs0, d0, ds0, p0, q0, hargs, rfl, rfl, h0, r0⟩ := trodAll_cons hA
  obtain ⟨v1, vs1, d1, ds1, p1, q1, rfl, rfl, rfl, h1, r1⟩ := trodAll_cons r0
  obtain ⟨v2, vs2, d2, ds2, p2, q2, rfl, rfl, rfl, h2, r2⟩ := trodAll_cons r1
  obtain ⟨v3, vs3, d3, ds3, p3, q3, rfl, rfl, rfl, h3, r3⟩ := trodAll_cons r2
  obtain ⟨v4, vs4, d4, ds4, p4, q4, rfl, rfl, rfl, h4, r4⟩ := trodAll_cons r3
  obtain ⟨v5, vs5, d5, ds5, p5, q5, rfl, rfl, rfl, h5, r5⟩ := trodAll_cons r4
  obtain ⟨rfl, rfl, rfl⟩ := trodAll_nil r5
  obtain rfl : args = #[v0, v1, v2, v3, v4, v5] := by cases args; simp_all
  obtain ⟨rfl, rfl⟩ := trodVars_none hV
  have k0 := h0
  have lt0 : ∀ x ∈ p0, x.block < W.heap.size := by obtain ⟨m, hm⟩ := k0; exact DataW.trod_lt m _ _ _ hm
  obtain ⟨⟨c0_0, ⟨c0_1, ⟨c0_2, c0_3⟩⟩⟩, ⟨_, _, gc0_2, fc0_0, ⟨_, _, gc0_1, fc0_1, ⟨_, _, gc0_0, fc0_2, fc0_3⟩⟩⟩, u0⟩ := open_arg (o_struct Try.underlying25 (by kernel_rfl) (f_cons rfl (by kernel_rfl) (o_int Try.underlying3) (f_cons rfl (by kernel_rfl) (o_int Try.underlying22) (f_cons rfl (by kernel_rfl) (o_int Try.underlying22) (f_last rfl (by kernel_rfl) (o_slice Try.underlying23 (by kernel_rfl) (o_int Try.underlying5))))))) h0
  obtain ⟨A0_3, s0_3, fc0_3, hc0_3, hC0_3⟩ := fc0_3
  have e0 : v0.cells.toList = _ := gc0_2
  simp only [Kd.int, Kd.bool, Kd.string, kFloat, Kd.scalar] at fc0_0 fc0_1 fc0_2 fc0_3
  simp only [gc0_0, gc0_1, fc0_0, fc0_1, fc0_2, fc0_3, List.cons_append, List.nil_append] at e0
  have e0' := agg_of Try.underlying25 (hval 0 25 v0 rfl rfl) e0
  subst e0'
  have k1 := h1
  have lt1 : ∀ x ∈ p1, x.block < W.heap.size := by obtain ⟨m, hm⟩ := k1; exact DataW.trod_lt m _ _ _ hm
  obtain ⟨l1, ⟨A1, c1, e1, hc1, hC1⟩, q1⟩ := open_arg (o_slice Try.underlying23 (by kernel_rfl) (o_int Try.underlying5)) h1
  obtain ⟨_, _, _, z1⟩ := okWide_slice Try.underlying23 (hval 1 23 v1 rfl rfl)
  obtain rfl : v1 = .slice A1 l1.length c1 := by subst z1; simpa [Value.cells] using e1
  have y1 := sized_any hsz (j := 1) (t := 23) rfl rfl Try.underlying23 h1
  have k2 := h2
  have lt2 : ∀ x ∈ p2, x.block < W.heap.size := by obtain ⟨m, hm⟩ := k2; exact DataW.trod_lt m _ _ _ hm
  obtain ⟨l2, ⟨A2, c2, e2, hc2, hC2⟩, q2⟩ := open_arg (o_slice Try.underlying23 (by kernel_rfl) (o_int Try.underlying5)) h2
  obtain ⟨_, _, _, z2⟩ := okWide_slice Try.underlying23 (hval 2 23 v2 rfl rfl)
  obtain rfl : v2 = .slice A2 l2.length c2 := by subst z2; simpa [Value.cells] using e2
  have y2 := sized_any hsz (j := 2) (t := 23) rfl rfl Try.underlying23 h2
  obtain ⟨a3, rfl, rfl, rfl, w3⟩ := open_int Try.underlying3 (hval 3 3 v3 rfl rfl) h3
  obtain ⟨a4, rfl, rfl, rfl, w4⟩ := open_int Try.underlying3 (hval 4 3 v4 rfl rfl) h4
  obtain ⟨a5, rfl, rfl, rfl, w5⟩ := open_int Try.underlying5 (hval 5 5 v5 rfl rfl) h5
  clear hA0 hval0
  refine (PL.tiklaw15_RecBack.calls 40003 c0_0 c0_1 c0_2 A0_3 s0_3 c0_3 A1 c1 l1 A2 c2 l2 a3 a4 a5 true W hC0_3 hc0_3 hC1 hc1 hC2 hc2 ⟨rfl⟩ (recBack_any 40000 (Nat.le_refl _) c0_0 c0_1 c0_2 a3 a4 a5 c0_3 l1 l2 (by have := bounds_u64 (show (Lit.int .u64 c0_1).wf = true from u0.2.1); omega) (by have := bounds_u64 (show (Lit.int .u64 c0_2).wf = true from u0.2.2.1); omega) (by have := bounds_u8 w5; omega) (fun x hx => by have := bounds_u8 (u0.2.2.2.2 x hx); omega) (fun x hx => by have := bounds_u8 (q1.2 x hx); omega) (fun x hx => by have := bounds_u8 (q2.2 x hx); omega))).mono fun e W' ⟨he, bel⟩ => ?_
  subst he
  exact ⟨_, rfl, _, _, _, [], _, [], hW', trodAll_mk1 (shut_bool Try.underlying4 _), (trodAll_cons_mk (Below.trod laidOut (by kernel_rfl) (of_decide_eq_true (by kernel_rfl)) k0 bel lt0) (trodAll_cons_mk (Below.trod laidOut (by kernel_rfl) (of_decide_eq_true (by kernel_rfl)) k1 bel lt1) (trodAll_cons_mk (Below.trod laidOut (by kernel_rfl) (of_decide_eq_true (by kernel_rfl)) k2 bel lt2) (trodAll_cons_mk (shut_int Try.underlying3 w3) (trodAll_cons_mk (shut_int Try.underlying3 w4) (trodAll_cons_mk (shut_int Try.underlying5 w5) trodAll_mk0)))))), rfl, bel.frame _, fun h => by cases h⟩
theorem over : Rows.recBackRow.holds Try.pinned (OpenSpec.ofChange Rows.recBackSpec) :=
  OpenClaim.holds_of_wide 4 Try.f4 rfl rfl rfl rfl rfl rfl rfl ⟨rfl, rfl, rfl, rfl, rfl⟩ rfl rfl rfl rfl rfl (by kernel_rfl) Try.func4 (by kernel_rfl)
    (of_decide_eq_true (by kernel_rfl)) (by unfold Func.isWrapper; first | (rw [if_pos (by decide +kernel)]; kernel_rfl) | (rw [if_neg (by decide +kernel)]; exact ⟨rfl, rfl⟩))
    (fun os started H enc _ => lifted os started H enc)
#print axioms over
end Go.Proofs.Ytdklanenmihpdaa.RowRecBack
namespace Go.Proofs.Ytdklanenmihpdaa
theorem recBack_holds : Rows.RecBackSaid := RowRecBack.over
end Go.Proofs.Ytdklanenmihpdaa
