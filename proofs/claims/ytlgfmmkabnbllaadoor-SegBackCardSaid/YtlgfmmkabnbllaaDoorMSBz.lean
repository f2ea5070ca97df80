/- Texts of this claim, put together. -/
import Derived.Test.YtlgfmmkabnbllaaDoorMSBe
import Derived.Test.YtlgfmmkabnbllaaDoorMSBf
import Derived.Test.YtlgfmmkabnbllaaDoorRows
import Derived.Test.YtlgfmmkabnbllaaDoorMSBa
import Derived.Test.YtlgfmmkabnbllaaDoorTie
import Derived.Test.YtlgfmmkabnbllaaDoorCards
import Derived.WalkKit
import Derived.ProofKit
import Derived.OpenShut
import Derived.ShutString
import Derived.ChangeOld
import Derived.Below
import Derived.SizedLaws
import Derived.LaidMore
import Derived.Stop.Joined
import Derived.SevenTiedAt
set_option linter.unusedVariables false
set_option linter.unusedSimpArgs false
namespace Go.Proofs.YtlgfmmkabnbllaaDoor.Hand
open Go.RowKit Go.Proofs.YtlgfmmkabnbllaaDoorW.PrintWords Go.Proofs.YtlgfmmkabnbllaaDoorW.PrintLast Go.Proofs.YtlgfmmkabnbllaaDoorW.PrintMore Go.Proofs.YtlgfmmkabnbllaaDoor.PA Go.Proofs.YtlgfmmkabnbllaaDoor.PS
theorem whole (l : List Rc) (k : Int) (h : 20 ≤ k) : ∃ M, M ≤ l.length ∧ posR l M ≤ k ∧ (M < l.length → k < posR l (M + 1)) := by
  have all : ∀ m, m ≤ l.length → ∃ M, M ≤ m ∧ posR l M ≤ k ∧ (M < m → k < posR l (M + 1)) := by
    intro m
    induction m with
    | zero => intro _; exact ⟨0, Nat.le_refl _, by rw [pos_zero]; exact h, fun h => by omega⟩
    | succ m ih =>
      intro hm
      obtain ⟨M, h1, h2, h3⟩ := ih (by omega)
      by_cases hM : M < m
      · exact ⟨M, by omega, h2, fun _ => h3 hM⟩
      · obtain rfl : M = m := by omega
        by_cases hp : posR l (M + 1) ≤ k
        · exact ⟨M + 1, Nat.le_refl _, hp, fun h => by omega⟩
        · exact ⟨M, by omega, h2, fun _ => by omega⟩
  exact all l.length (Nat.le_refl _)
theorem back_l2 {l : List Rc} {n f kk : Int} {M : Nat} (hM : M ≤ l.length) (hl : l.length ≤ 30) (h1 : posR l M ≤ kk) (h2 : M < l.length → kk < posR l (M + 1)) :
    ∀ (m i : Nat), i + m = l.length → ∀ k, 500 + m ≤ k → tiklaw16_SegBack.l2 k l kk (i : Int) n f (partsR l l.length) (posR l l.length) n f (partsR l M) (posR l M) = some true
  | 0, i, hi, k, hk => by
    obtain ⟨k, rfl⟩ : ∃ j, k = j + 1 := ⟨k - 1, by omega⟩
    obtain rfl : i = l.length := by omega
    rw [tiklaw16_SegBack.l2, if_neg (by omega), sfirst_f k (by omega), Option.bind_some, if_pos rfl, parts_len, parts_len]
    rcases Nat.eq_zero_or_pos M with rfl | hp
    · refine (if_pos rfl).trans ?_
      rw [pos_zero]
      rfl
    · have hw : wrap64 ((M : Int) - 1) = ((M - 1 : Nat) : Int) := by rw [IntWalk.wrap64_in _ (by omega)]; omega
      have e : (partR l (M - 1)).f2 = posR l M := by
        show posR l (M - 1 + 1) = _
        rw [Nat.sub_add_cancel hp]
      rw [hw, parts_at l l.length (M - 1) (by omega), e]
      refine (if_neg (by omega)).trans ((if_pos (by omega)).trans ((if_pos (by omega)).trans ((if_pos (by omega)).trans ?_)))
      simp
  | m + 1, i, hi, k, hk => by
    obtain ⟨k, rfl⟩ : ∃ j, k = j + 1 := ⟨k - 1, by omega⟩
    have hn : wrap64 ((i : Int) + 1) = ((i + 1 : Nat) : Int) := by rw [IntWalk.wrap64_in _ (by omega)]; omega
    have hd : decide (posR l (i + 1) ≤ kk) = decide ((i : Int) < ((partsR l M).length : Int)) := by
      congr 1
      apply propext
      rw [parts_len]
      by_cases hiM : i < M
      · have := pos_le l (show i + 1 ≤ M by omega) hM
        constructor <;> intro _ <;> omega
      · have h3 := h2 (by omega)
        have := pos_le l (show M + 1 ≤ i + 1 by omega) (by omega)
        constructor <;> intro _ <;> omega
    rw [tiklaw16_SegBack.l2, if_pos (by omega), if_pos (by omega), parts_len, if_pos (by omega), parts_at l l.length i (by omega)]
    have e : (partR l i).f2 = posR l (i + 1) := rfl
    rw [e, ← parts_len l l.length, hd, bne_self_eq_false, if_neg (by decide), hn, parts_len]
    exact back_l2 hM hl h1 h2 m (i + 1) (by omega) k (by omega)
structure Whole (n f : Int) (l : List Rc) : Prop where
  may : MayH n f
  ok : OkFile f l
  len : l.length ≤ 30
theorem cat_bytes {n f : Int} {l : List Rc} (h : Whole n f l) : Bytes255 (hdrL n f ++ catR l) := by
  intro x hx
  rcases List.mem_append.1 hx with hx | hx
  · exact hdr_bytes n f x hx
  · simp only [catR, List.mem_flatten, List.mem_map] at hx
    obtain ⟨y, ⟨r, hr, rfl⟩, hx⟩ := hx
    obtain ⟨i, hi, rfl⟩ := List.mem_iff_getElem.1 hr
    have e : atR l i = l[i] := by
      unfold atR rd_T88
      rw [Int.toNat_natCast, List.getD_eq_getElem?_getD, List.getElem?_eq_getElem hi]
      rfl
    have hm := h.ok.may i hi
    rw [e] at hm
    exact enc_bytes hm.1 hm.2.1 x hx
theorem cat_len {n f : Int} {l : List Rc} (h : Whole n f l) : (catR l).length ≤ 91200 := by
  have all : ∀ m, m ≤ l.length → (catR (l.take m)).length ≤ 3040 * m := by
    intro m
    induction m with
    | zero => intro _; simp [catR]
    | succ m ih =>
      intro hm
      have hr := h.ok.may m (by omega)
      have h1 := (enc_small hr.1 (by have := hr.2.2; omega)).1
      have h2 := ih (by omega)
      have e0 : (encR (atR l m)).length = (encL (atR l m).f0 (atR l m).f1 (atR l m).f2 (atR l m).f3).length := rfl
      rw [take_at l m (by omega), catR_app, catR_one, List.length_append]
      omega
  have := all l.length (Nat.le_refl _)
  rw [List.take_of_length_le (Nat.le_refl _)] at this
  have := h.len
  omega
theorem back_end {n f cut : Int} {l : List Rc} (h : Whole n f l) (hc : 0 ≤ cut) (k : Nat) (hk : 1000 ≤ k) (x14 : Int) :
    tiklaw16_SegBack.l1 k l cut (hdrL n f ++ catR l) x14 (l.length : Int) n f (partsR l l.length) (posR l l.length) = some true := by
  obtain ⟨k, rfl⟩ : ∃ j, k = j + 1 + 1 := ⟨k - 2, by omega⟩
  have hb := cat_bytes h
  have hcl := cat_len h
  have hbl : (hdrL n f ++ catR l).length = 20 + (catR l).length := by rw [List.length_append, hdr_len]
  have hl := h.len
  obtain ⟨B, hB⟩ : ∃ B, B = hdrL n f ++ catR l := ⟨_, rfl⟩
  rw [← hB] at hb hbl ⊢
  have hw : wrap64 ((B.length : Int) + 1) = (B.length : Int) + 1 := IntWalk.wrap64_in _ (by omega)
  obtain ⟨kk, hkk⟩ : ∃ kk : Nat, Int.tmod cut ((B.length : Int) + 1) = kk := ⟨(Int.tmod cut ((B.length : Int) + 1)).toNat, by
    have := Int.tmod_nonneg ((B.length : Int) + 1) hc
    omega⟩
  have hlt : kk ≤ B.length := by
    have := Int.tmod_lt_of_pos cut (show (0 : Int) < (B.length : Int) + 1 by omega)
    omega
  rw [tiklaw16_SegBack.l1, if_neg (by omega), hw, if_neg (by omega), hkk, if_pos (by omega), if_pos (by omega), Int.toNat_natCast]
  by_cases h20 : kk < 20
  · have hr : seg_Read.f (k + 1) (B.take kk) = some (0, 0, ([] : List Pt), 0, 2) := by
      unfold seg_Read.f
      rw [head_short _ _ (by rw [List.length_take]; omega), Option.bind_some]
      exact if_neg (by decide)
    rw [hr, Option.bind_some]
    refine (if_pos (by omega)).trans ?_
    rw [sfirst_f (k + 1) (by omega), Option.bind_some]
    rfl
  · obtain ⟨M, hM, h1, h2⟩ := whole l (kk : Int) (by omega)
    have hr := read_cut (n := n) h.may h.ok hl (k := kk) (M := M) (by rw [← hB]; omega) hM (by omega) h1 h2 (by rw [← hB]; exact hb) (by rw [← hB]; omega) (k + 1) (by omega)
    rw [← hB] at hr
    rw [hr, Option.bind_some]
    refine (if_neg (by omega)).trans ((if_pos rfl).trans ((if_neg (by dsimp only; omega)).trans ?_))
    have hd : decide (((partsR l M).length : Int) > (l.length : Int)) = false := decide_eq_false (by rw [parts_len]; omega)
    dsimp only
    rw [hd, tiklaw16_SegBack.j4, if_neg (by decide)]
    exact back_l2 hM hl h1 h2 l.length 0 (by omega) k (by omega)
theorem back_l1 {n f cut : Int} {l : List Rc} (h : Whole n f l) (hc : 0 ≤ cut) :
    ∀ (m i : Nat), i + m = l.length → ∀ k, 1000 + m ≤ k → tiklaw16_SegBack.l1 k l cut (hdrL n f ++ catR l) (posR l i) (i : Int) n f (partsR l l.length) (posR l l.length) = some true
  | 0, i, hi, k, hk => by
    obtain rfl : i = l.length := by omega
    exact back_end h hc k (by omega) _
  | m + 1, i, hi, k, hk => by
    obtain ⟨k, rfl⟩ : ∃ j, k = j + 1 := ⟨k - 1, by omega⟩
    have hl := h.len
    have hm := h.ok.may i (by omega)
    have hn : wrap64 ((i : Int) + 1) = ((i + 1 : Nat) : Int) := by rw [IntWalk.wrap64_in _ (by omega)]; omega
    have hr : rd_T88 l (i : Int) = atR l i := rfl
    have e0 : (partR l i).f0 = atR l i := rfl
    have e1 : (partR l i).f1 = posR l i := rfl
    have e2 : (partR l i).f2 = posR l (i + 1) := rfl
    have hlt := pos_lt l i (by omega)
    rw [tiklaw16_SegBack.l1, if_pos (by omega), if_pos (by omega), parts_len, if_pos (by omega), parts_at l l.length i (by omega), hr, e0, e1, e2, same_f hm.2.1 hm.2.1, Option.bind_some, decide_eq_true ⟨rfl, rfl, rfl, rfl⟩, if_pos rfl, if_pos rfl, if_neg (by omega), hn]
    exact back_l1 h hc m (i + 1) (by omega) k (by omega)
theorem back_l0 {n f cut : Int} {l : List Rc} (hc : 0 ≤ cut) (hf : 0 ≤ f) (hl : l.length ≤ 30) (hw : ∀ i, i < l.length → WfR (atR l i)) :
    ∀ (m i : Nat), i + m = l.length → (∀ j, j < i → (atR l j).f3.length ≤ 300) → ∀ k, 45000 + m ≤ k → tiklaw16_SegBack.l0 k l cut (i : Int) n f = some true
  | 0, i, hi, hs, k, hk => by
    obtain ⟨k, rfl⟩ : ∃ j, k = j + 1 := ⟨k - 1, by omega⟩
    obtain rfl : i = l.length := by omega
    rw [tiklaw16_SegBack.l0, if_neg (by omega)]
    obtain ⟨B, hq | ⟨hq, hM, hO⟩⟩ := file_f k (by omega) n f hf l hl (fun i hi => ⟨hw i hi, hs i hi⟩)
    · rw [hq, Option.bind_some]
      refine (if_neg (by simp)).trans ?_
      rw [sfirst_f k (by omega), Option.bind_some]
    have hW : Whole n f l := ⟨hM, hO, hl⟩
    have hbl : (hdrL n f ++ catR l).length = 20 + (catR l).length := by rw [List.length_append, hdr_len]
    have hcl := cat_len hW
    have hpa := pos_all l
    have hr := read_cut (n := n) hM hO hl (k := (hdrL n f ++ catR l).length) (M := l.length) (Nat.le_refl _) (Nat.le_refl _) (by omega) (by omega) (fun h => by omega) (cat_bytes hW) (by omega) k (by omega)
    rw [List.take_of_length_le (Nat.le_refl _)] at hr
    have h1 := hM.1
    have h2 := hM.2.1
    obtain ⟨k, rfl⟩ : ∃ j, k = j + 7 := ⟨k - 7, by omega⟩
    rw [hq, Option.bind_some]
    refine (if_pos rfl).trans ?_
    rw [hr, Option.bind_some, name_f, Option.bind_some, num_name k n (by omega) (by omega), Option.bind_some]
    dsimp only
    refine (if_pos rfl).trans ((if_pos rfl).trans ((if_pos rfl).trans ((if_pos (by omega)).trans ((if_pos (by rw [parts_len])).trans ((if_pos rfl).trans ?_)))))
    rw [bne_self_eq_false, tiklaw16_SegBack.j2, if_neg (by decide)]
    exact back_l1 hW hc l.length 0 (by omega) (k + 6) (by omega)
  | m + 1, i, hi, hs, k, hk => by
    obtain ⟨k, rfl⟩ : ∃ j, k = j + 1 := ⟨k - 1, by omega⟩
    have hn : wrap64 ((i : Int) + 1) = ((i + 1 : Nat) : Int) := by rw [IntWalk.wrap64_in _ (by omega)]; omega
    have hr : rd_T88 l (i : Int) = atR l i := rfl
    rw [tiklaw16_SegBack.l0, if_pos (by omega), if_pos (by omega), hr]
    by_cases h3 : ((atR l i).f3.length : Int) > 300
    · rw [if_pos h3, sfirst_f k (by omega), Option.bind_some]
    rw [if_neg h3, hn]
    refine back_l0 hc hf hl hw m (i + 1) (by omega) (fun j hj => ?_) k (by omega)
    rcases Nat.lt_or_ge j i with h | h
    · exact hs j h
    · obtain rfl : j = i := by omega
      omega
theorem segBack_any (n f cut : Int) (l : List Rc) (hf : 0 ≤ f) (hw : ∀ i, i < l.length → WfR (atR l i)) : tiklaw16_SegBack.f 50000 n f l cut = some true := by
  have ht : tiklaw16_SegBack.j0 50000 l cut true n f = some true := by
    rw [show (50000 : Nat) = 49999 + 1 from rfl, tiklaw16_SegBack.j0, if_pos rfl, sfirst_f _ (by omega), Option.bind_some]
  unfold tiklaw16_SegBack.f
  rw [sfirst_f _ (by omega), Option.bind_some, if_pos rfl]
  by_cases h30 : (l.length : Int) > 30
  · rw [if_pos h30]; exact ht
  rw [if_neg h30]
  by_cases hc : cut < 0
  · rw [decide_eq_true hc]; exact ht
  rw [decide_eq_false hc, show (50000 : Nat) = 49999 + 1 from rfl, tiklaw16_SegBack.j0, if_neg (by decide)]
  exact back_l0 (by omega) hf (by omega) hw l.length 0 (by omega) (fun j hj => by omega) 49999 (by omega)
end Go.Proofs.YtlgfmmkabnbllaaDoor.Hand
namespace Go.Proofs.YtlgfmmkabnbllaaDoor.RowSegBack
open Go.ChangeShapes Go.WideShapes Go.ChangeAt Go.RowKit
open Go.ChangeMaps (open_string shut_string)
open Go.Proofs.YtlgfmmkabnbllaaDoorW.PrintWords Go.Proofs.YtlgfmmkabnbllaaDoor.Opens
open Go.Proofs.YtlgfmmkabnbllaaDoor.Hand
open Go.Proofs.YtlgfmmkabnbllaaDoor.PS
open Go.Proofs.YtlgfmmkabnbllaaDoor
set_option linter.unusedVariables false
set_option linter.unusedSimpArgs false
theorem ownK : ownKnob Tryd.prog.godebug = none := by kernel_rfl
theorem laidOut : laidOutB Tryd.prog = true := by kernel_rfl
theorem o88 : Opens Tryd.prog 88 PS.k88 (fun b => (Lit.int .i64 b.f0).wf = true ∧ (Lit.int .u64 b.f1).wf = true ∧ (Lit.int .u64 b.f2).wf = true ∧ (b.f3.length ≤ maxLen ∧ ∀ x ∈ b.f3, (Lit.int .u8 x).wf = true)) := o_map (f := fun x : PS.S88 => (x.f0, x.f1, x.f2, x.f3)) (o_struct Tryd.underlying88 (by kernel_rfl) (f_cons rfl (by kernel_rfl) (o_int Tryd.underlying3) (f_cons rfl (by kernel_rfl) (o_int Tryd.underlying28) (f_cons rfl (by kernel_rfl) (o_int Tryd.underlying28) (f_last rfl (by kernel_rfl) (o_slice Tryd.underlying64 (by kernel_rfl) (o_int Tryd.underlying5))))))) (fun p => ⟨p.1, p.2.1, p.2.2.1, p.2.2.2⟩) (fun _ => rfl)
abbrev laid2 : List (String × DataW Unit) := [("math/bits.deBruijn32tab", Rows.laid_math_bits_deBruijn32tab), ("math/bits.deBruijn64tab", Rows.laid_math_bits_deBruijn64tab), ("internal/strconv.uint64pow10", Rows.laid_internal_strconv_uint64pow10)]
set_option maxRecDepth 100000 in
theorem door_met (os : Os) (args : Array Value) : laidMetH Tryd.prog laid2 ((World.doorLaid Tryd.prog 400 os).forCall (fun _ _ => 0) ⟨#[], args, []⟩).memory :=
  laidMetH_of_parts3 (fuel := 8) (laidMet_of_run' 8 (by kernel_rfl) (by kernel_rfl)) (by kernel_rfl) (by kernel_rfl)
set_option maxRecDepth 100000 in
theorem lifted (os : Os) (started : os.Started) (H : Type) (enc : TypeId × Value → H) :
    ReturnsInHanded {} Tryd.checked os 10 .any (fun w args => (Rows.segBackSpec.pre enc Tryd.prog Tryd.f10 [] false w args ∧ laidMetH Tryd.prog laid2 w) ∧ sizedMet enc Tryd.prog Tryd.f10 (OpenSpec.ofChange Rows.segBackSpec) false w args)
      (Rows.segBackSpec.post enc Tryd.prog Tryd.f10 false true false false) := by
  refine returnsInHanded_of_change_and (C := Tryd.checked) (X := fun w _ => laidMetH Tryd.prog laid2 w) (fun _ _ _ hh h => h.of_heap hh) ownK started (by kernel_rfl) Tryd.func10
    (ChangeSpec.witness_shaped (enc := enc) (C := Tryd.checked) (os := os) (X := fun w _ => laidMetH Tryd.prog laid2 w) false (World.doorLaid Tryd.prog 400 os) #[.agg #[.int .i64 0, .int .u64 0], .slice none 0 0, .int .i64 0] 8 rfl (World.shaped_of_RefB (by kernel_rfl) (by kernel_rfl)) (by kernel_rfl) (by kernel_rfl) (by kernel_rfl) (door_met os _)) ?_
  intro W base args ds gs before hval0 hW _ hsz0 hT _
  have hsz : (DataW.weightsEach Tryd.prog (Tryd.f10.params.toList ++ Rows.segBackSpec.plain.varTypes Tryd.prog) (ds ++ gs)).all (· ≤ reachBytes) = true := hsz0
  have hval : ∀ (j : Nat) t v, Tryd.f10.params[j]? = some t → args[j]? = some v → Value.okWide Tryd.prog W .any base t v := hval0
  have hW' := hW
  obtain ⟨p, q, hA0, hV, rfl, hfz, hnd⟩ := hW
  have hA : DataW.TrodAll enc Tryd.prog W 0 (fun _ => true) true Tryd.f10.params.toList args.toList ds p := hA0
  rw [Tryd.params10] at hA hval hsz
  obtain ⟨v0, vs0, d0, ds0, p0, q0, hargs, rfl, rfl, h0, r0⟩ := trodAll_cons hA
  obtain ⟨v1, vs1, d1, ds1, p1, q1, rfl, rfl, rfl, h1, r1⟩ := trodAll_cons r0
  obtain ⟨v2, vs2, d2, ds2, p2, q2, rfl, rfl, rfl, h2, r2⟩ := trodAll_cons r1
  obtain ⟨rfl, rfl, rfl⟩ := trodAll_nil r2
  obtain rfl : args = #[v0, v1, v2] := by cases args; simp_all
  obtain ⟨rfl, rfl⟩ := trodVars_none hV
  have k0 := h0
  have lt0 : ∀ x ∈ p0, x.block < W.heap.size := by obtain ⟨m, hm⟩ := k0; exact DataW.trod_lt m _ _ _ hm
  obtain ⟨⟨c0_0, c0_1⟩, ⟨_, _, gc0_0, fc0_0, fc0_1⟩, u0⟩ := open_arg (o_struct Tryd.underlying63 (by kernel_rfl) (f_cons rfl (by kernel_rfl) (o_int Tryd.underlying3) (f_last rfl (by kernel_rfl) (o_int Tryd.underlying28)))) h0
  have e0 : v0.cells.toList = _ := gc0_0
  simp only [Kd.int, Kd.bool, Kd.string, kFloat, Kd.scalar] at fc0_0 fc0_1
  simp only [fc0_0, fc0_1, List.cons_append, List.nil_append] at e0
  have e0' := agg_of Tryd.underlying63 (hval 0 63 v0 rfl rfl) e0
  subst e0'
  have k1 := h1
  have lt1 : ∀ x ∈ p1, x.block < W.heap.size := by obtain ⟨m, hm⟩ := k1; exact DataW.trod_lt m _ _ _ hm
  obtain ⟨l1, ⟨A1, c1, e1, hc1, hC1⟩, q1⟩ := open_arg (o_slice Tryd.underlying86 (by kernel_rfl) o88) h1
  obtain ⟨_, _, _, z1⟩ := okWide_slice Tryd.underlying86 (hval 1 86 v1 rfl rfl)
  obtain rfl : v1 = .slice A1 l1.length c1 := by subst z1; simpa [Value.cells] using e1
  have y1 := sized_any hsz (j := 1) (t := 86) rfl rfl Tryd.underlying86 h1
  obtain ⟨a2, rfl, rfl, rfl, w2⟩ := open_int Tryd.underlying3 (hval 2 3 v2 rfl rfl) h2
  clear hA0 hval0
  refine (tiklaw16_SegBack.calls 50000 c0_0 c0_1 A1 c1 l1 a2 true W hC1 hc1 (tabI_of hT) ⟨rfl⟩ (segBack_any c0_0 c0_1 a2 l1 (by have := bounds_u64 (show (Lit.int .u64 c0_1).wf = true from u0.2); omega) (fun i hi => by have z := q1.2 _ (at_mem l1 i hi); have z1 := bounds_u64 z.2.1; have z2 := bounds_u64 z.2.2.1; exact ⟨⟨by omega, by omega⟩, ⟨by omega, by omega⟩, fun x hx => by have := bounds_u8 (z.2.2.2.2 x hx); omega⟩))).mono fun e W' ⟨he, bel⟩ => ?_
  subst he
  exact ⟨_, rfl, _, _, _, [], _, [], hW', trodAll_mk1 (shut_bool Tryd.underlying4 _), (trodAll_cons_mk (Below.trod laidOut (by kernel_rfl) (of_decide_eq_true (by kernel_rfl)) k0 bel lt0) (trodAll_cons_mk (Below.trod laidOut (by kernel_rfl) (of_decide_eq_true (by kernel_rfl)) k1 bel lt1) (trodAll_cons_mk (shut_int Tryd.underlying3 w2) trodAll_mk0))), rfl, bel.frame _, fun h => by cases h⟩
theorem over : Rows.segBackRow.holds Tryd.pinned (OpenSpec.ofChange Rows.segBackSpec) :=
  OpenClaim.holds_of_wide 10 Tryd.f10 rfl rfl rfl rfl rfl rfl rfl ⟨rfl, rfl, rfl, rfl, rfl⟩ rfl rfl rfl rfl rfl (by kernel_rfl) Tryd.func10 (by kernel_rfl)
    (of_decide_eq_true (by kernel_rfl)) (by unfold Func.isWrapper; first | (rw [if_pos (by decide +kernel)]; kernel_rfl) | (rw [if_neg (by decide +kernel)]; exact ⟨rfl, rfl⟩))
    (fun os started H enc _ => lifted os started H enc)
theorem card : Rows.SegBackCardSaid :=
  Claim7.holds_tied_plain_at .later [] [.data, .data, .data] true (true, "f4cce56c052b8147ed0d96dfe40f3886e39b5e64f551fd0da9ae368612f96104") true
    over (fun _ h => by cases h) (by kernel_rfl) (fun _ h => by cases h) segBack_row_tie rfl ⟨rfl, rfl⟩ (by kernel_rfl) rfl
    (fun f fn hf hfn => by
      obtain rfl : f = 10 := Option.some.inj ((show Tryd.prog.funcNamed "tickertape/tiklaw16.SegBack" = some 10 by kernel_rfl).symm.trans hf) |>.symm
      obtain rfl : fn = Tryd.f10 := (Option.some.inj (Tryd.func10.symm.trans hfn)).symm
      exact ⟨by kernel_rfl, fun j t ht => by
        rw [Tryd.params10] at ht
        have hm : t ∈ [63, 86, 3] := by simpa using Array.mem_of_getElem? ht
        have hall : ([63, 86, 3].all fun u => !Tryd.prog.wantsStandIn u) = true := by kernel_rfl
        exact (show Tryd.prog.wantsStandIn t = false by simpa using List.all_eq_true.1 hall t hm)⟩)
    (by kernel_rfl)
#print axioms card
end Go.Proofs.YtlgfmmkabnbllaaDoor.RowSegBack
namespace Go.Proofs.YtlgfmmkabnbllaaDoor
theorem segBack_holds : Rows.SegBackCardSaid := RowSegBack.card
end Go.Proofs.YtlgfmmkabnbllaaDoor
