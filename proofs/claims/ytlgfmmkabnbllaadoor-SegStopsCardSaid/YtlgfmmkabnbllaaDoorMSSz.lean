/- Texts of this claim, put together. -/
import Derived.Test.YtlgfmmkabnbllaaDoorMSSd
import Derived.Test.YtlgfmmkabnbllaaDoorMSSe
import Derived.Test.YtlgfmmkabnbllaaDoorRows
import Derived.Test.YtlgfmmkabnbllaaDoorMSSa
import Derived.Test.YtlgfmmkabnbllaaDoorTie
import Derived.Test.YtlgfmmkabnbllaaDoorCards
import Derived.WalkKit
import Derived.ProofKit
import Derived.OpenShut
import Derived.ShutString
import Derived.ChangeOld
import Derived.Below
import Derived.SizedLaws
import Derived.LaidMore
import Derived.Stop.Joined
import Derived.SevenTiedAt
set_option linter.unusedVariables false
set_option linter.unusedSimpArgs false
namespace Go.Proofs.YtlgfmmkabnbllaaDoor.Hand
open Go.RowKit Go.Proofs.YtlgfmmkabnbllaaDoorW.PrintWords Go.Proofs.YtlgfmmkabnbllaaDoorW.PrintLast Go.Proofs.YtlgfmmkabnbllaaDoorW.PrintMore Go.Proofs.YtlgfmmkabnbllaaDoor.PA Go.Proofs.YtlgfmmkabnbllaaDoor.PS
def okS (f : Int) (l : List Rc) (i : Nat) : Prop :=
  (atR l i).f1 = IntKind.u64.wrap (f + IntKind.u64.wrap (i : Int)) ∧ (i = 0 → (atR l i).f0 = 1) ∧ (0 < i → (atR l (i - 1)).f2 ≤ (atR l i).f2)
instance (f : Int) (l : List Rc) (i : Nat) : Decidable (okS f l i) := by unfold okS; infer_instance
theorem seq_plain {f : Int} (h0 : 1 ≤ f) (h1 : f ≤ 4611686018427387904) (i : Nat) (hi : i ≤ 30) : IntKind.u64.wrap (f + IntKind.u64.wrap (i : Int)) = f + (i : Int) := by
  rw [IntWalk.u64_in (i : Int) (by omega), IntWalk.u64_in _ (by omega)]
theorem next_no {f n g : Int} {l : List Rc} {G : Nat} (hG : G < l.length) (hl : l.length ≤ 30) (h0 : 1 ≤ f) (h1 : f ≤ 4611686018427387904) (hs : ∀ j, j < G → okS f l j) (hno : ¬ okS f l G) :
    seg_Scan_next.f n f (partsR l G) g (atR l G).f0 (atR l G).f1 (atR l G).f2 (atR l G).f3 = some false := by
  unfold seg_Scan_next.f
  rw [parts_len]
  rcases Nat.eq_zero_or_pos G with rfl | hp
  · refine (if_pos rfl).trans ?_
    by_cases hk : (atR l 0).f0 = 1
    · have hq : (atR l 0).f1 ≠ f := fun e => hno ⟨by rw [seq_plain h0 h1 0 (by omega), e]; omega, fun _ => hk, fun h => by omega⟩
      rw [if_pos hk]
      simp [hq]
    · rw [if_neg hk]
  · obtain ⟨j, rfl⟩ : ∃ j, G = j + 1 := ⟨G - 1, by omega⟩
    have hw : wrap64 (((j + 1 : Nat) : Int) - 1) = (j : Int) := by rw [IntWalk.wrap64_in _ (by omega)]; omega
    have hsj := (hs j (by omega)).1
    rw [seq_plain h0 h1 j (by omega)] at hsj
    have hr : rd_T93 (partsR l (j + 1)) (j : Int) = partR l j := parts_at l (j + 1) j (by omega)
    have e1 : (partR l j).f0 = atR l j := rfl
    have hu : IntKind.u64.wrap ((atR l j).f1 + 1) = f + ((j + 1 : Nat) : Int) := by rw [hsj, IntWalk.u64_in _ (by omega)]; omega
    rw [hw, hr, e1, hu]
    refine (if_neg (by omega)).trans ((if_pos (by omega)).trans ((if_pos (by omega)).trans ?_))
    by_cases hq : (atR l (j + 1)).f1 = f + ((j + 1 : Nat) : Int)
    · rw [if_pos hq]
      have ht : ¬ ((atR l (j + 1)).f2 ≥ (atR l j).f2) := fun h => hno ⟨by rw [seq_plain h0 h1 (j + 1) (by omega)]; exact hq, fun h => by omega, fun _ => h⟩
      rw [decide_eq_false ht]
    · rw [if_neg hq]
theorem at_take (l : List Rc) {i G : Nat} (h : i < G) : atR (l.take G) i = atR l i := by
  unfold atR rd_T88
  rw [Int.toNat_natCast, List.getD_eq_getElem?_getD, List.getD_eq_getElem?_getD, List.getElem?_take_of_lt h]
theorem pos_take (l : List Rc) {i G : Nat} (h : i ≤ G) : posR (l.take G) i = posR l i := by
  unfold posR
  rw [List.take_take, Nat.min_eq_left h]
theorem parts_take (l : List Rc) {i G : Nat} (h : i ≤ G) : partsR (l.take G) i = partsR l i := by
  unfold partsR
  apply List.map_congr_left
  intro j hj
  have := List.mem_range.1 hj
  unfold partR
  rw [at_take l (by omega), pos_take l (by omega), pos_take l (by omega)]
theorem read_stops {n f : Int} {l : List Rc} {G : Nat} (hh : MayH n f) (hl : l.length ≤ 30) (hm : ∀ i, i < l.length → MayS (atR l i)) (hG : G ≤ l.length) (hs : ∀ j, j < G → okS f l j) (hno : G < l.length → ¬ okS f l G)
    (hb : Bytes255 (hdrL n f ++ catR l)) (hX : (hdrL n f ++ catR l).length < 140737488355328) (K : Nat) (hK : 400 ≤ K) :
    seg_Read.f K (hdrL n f ++ catR l) = some (n, f, partsR l G, posR l G, 0) := by
  have h0 := hh.2.2.1
  have h1 := hh.2.2.2
  have tl : (l.take G).length = G := by rw [List.length_take]; omega
  have hO : OkFile f (l.take G) := by
    refine ⟨h0, h1, fun i hi => ?_, fun i hi => ?_, fun hi => ?_, fun i hi => ?_⟩
    · rw [at_take l (by omega)]; exact hm i (by omega)
    · rw [at_take l (by omega), (hs i (by omega)).1, seq_plain h0 h1 i (by omega)]
    · rw [at_take l (by omega)]; exact (hs 0 (by omega)).2.1 rfl
    · rw [at_take l (by omega), at_take l (by omega)]; exact (hs (i + 1) (by omega)).2.2 (by omega)
  obtain ⟨j, rfl⟩ : ∃ j, K = j + 1 + G := ⟨K - 1 - G, by omega⟩
  have hcat : hdrL n f ++ catR l = hdrL n f ++ (catR ((l.take G).take G) ++ catR (l.drop G)) := by
    rw [List.take_take, Nat.min_self, ← catR_app, List.take_append_drop]
  have hr := read_run (n := n) hO (by omega) (X := hdrL n f ++ catR l) (M := G) (by omega) (hdr_len n f) hcat hb hX G (j + 1) 0 (by omega)
  rw [pos_zero, parts_take l (by omega), parts_take l (Nat.le_refl _), pos_take l (Nat.le_refl _)] at hr
  unfold seg_Read.f
  rw [head_f _ (by omega) n f hh, Option.bind_some]
  refine (if_pos rfl).trans ?_
  refine hr.trans ?_
  have hpa := pos_all l
  have hbl : (hdrL n f ++ catR l).length = 20 + (catR l).length := by rw [List.length_append, hdr_len]
  by_cases hGl : G = l.length
  · obtain ⟨x, hx⟩ := cut_err hm (hdr_len n f) hb (k := (hdrL n f ++ catR l).length) (Nat.le_refl _) hG (by rw [hGl]; omega) (fun h => by omega)
    rw [List.take_of_length_le (Nat.le_refl _)] at hx
    exact read_stop hb hX (by unfold posR; omega) (by rw [hGl]; omega) hx j
  · have hGi : G < l.length := by omega
    have hX2 : hdrL n f ++ catR l = (hdrL n f ++ catR (l.take G)) ++ (encR (atR l G) ++ catR (l.drop (G + 1))) := by
      conv => lhs; rw [cat_at l G hGi]
      simp only [List.append_assoc]
    have hp : (((hdrL n f ++ catR (l.take G)).length : Nat) : Int) = posR l G := by
      rw [List.length_append, hdr_len]
      unfold posR
      omega
    have hd := dec_enc (hdrL n f ++ catR (l.take G)) (catR (l.drop (G + 1))) (hm G hGi).1
    have e0 : encL (atR l G).f0 (atR l G).f1 (atR l G).f2 (atR l G).f3 = encR (atR l G) := rfl
    rw [e0, ← hX2, hp, ← pos_succ l G hGi] at hd
    have hdf := dec_f (hdrL n f ++ catR l) (posR l G) hb hX (by unfold posR; omega) (by have := pos_le l hG (Nat.le_refl _); omega)
    rw [hd] at hdf
    rw [seg_Read.l0, hdf, Option.bind_some]
    refine (if_pos rfl).trans ?_
    dsimp only [decOut]
    rw [next_no hGi hl h0 h1 hs (hno hGi), Option.bind_some]
    exact if_neg (by decide)
theorem stops_l1 {n f : Int} {l : List Rc} {G : Nat} (hG : G ≤ l.length) (hl : l.length ≤ 30) (hm : ∀ i, i < l.length → MayS (atR l i)) :
    ∀ (m i : Nat), i + m = G → ∀ k, 500 + m ≤ k → tiklaw16_SegStops.l1 k l (G : Int) (i : Int) n f (partsR l G) (posR l G) = some true
  | 0, i, hi, k, hk => by
    obtain ⟨k, rfl⟩ : ∃ j, k = j + 1 := ⟨k - 1, by omega⟩
    rw [tiklaw16_SegStops.l1, if_neg (by omega), sfirst_f k (by omega), Option.bind_some]
  | m + 1, i, hi, k, hk => by
    obtain ⟨k, rfl⟩ : ∃ j, k = j + 1 := ⟨k - 1, by omega⟩
    have hn : wrap64 ((i : Int) + 1) = ((i + 1 : Nat) : Int) := by rw [IntWalk.wrap64_in _ (by omega)]; omega
    have hr : rd_T88 l (i : Int) = atR l i := rfl
    have e0 : (partR l i).f0 = atR l i := rfl
    have hmi := hm i (by omega)
    rw [tiklaw16_SegStops.l1, if_pos (by omega), if_pos (by omega), parts_len, if_pos (by omega), if_pos (by omega), parts_at l G i (by omega), hr, e0, same_f hmi.2.1 hmi.2.1, Option.bind_some, decide_eq_true ⟨rfl, rfl, rfl, rfl⟩, if_pos rfl, hn]
    exact stops_l1 hG hl hm m (i + 1) (by omega) k (by omega)
theorem stops_step (k : Nat) (f n good at_ : Int) (l : List Rc) (X : List Int) (stop : Bool) (i : Nat) (hi : i < l.length) (hl : l.length ≤ 30) (hk : 45000 ≤ k) (hw : WfR (atR l i)) (hb : (atR l i).f3.length ≤ 300) (hm : mayL (atR l i).f0 (atR l i).f1 (atR l i).f2 (atR l i).f3.length) :
    tiklaw16_SegStops.l0 (k + 1) l X good stop at_ (i : Int) n f = tiklaw16_SegStops.j2 k l X good (stop || !decide (okS f l i)) at_ (i : Int) (encR (atR l i)) n f := by
  have he := enc_f k (atR l i).f0 (atR l i).f1 (atR l i).f2 (atR l i).f3 hw.1 hw.2.1 hw.2.2 (by omega) (by omega)
  rw [if_pos hm] at he
  have hr : rd_T88 l (i : Int) = atR l i := rfl
  have e0 : encL (atR l i).f0 (atR l i).f1 (atR l i).f2 (atR l i).f3 = encR (atR l i) := rfl
  rw [e0] at he
  rw [tiklaw16_SegStops.l0, if_pos (by omega), if_pos (by omega), hr, if_neg (by omega), he, Option.bind_some]
  refine (if_pos rfl).trans ?_
  dsimp only
  cases stop
  case true => rw [if_pos rfl, Bool.true_or]
  rw [if_neg (by decide), Bool.false_or]
  by_cases h2 : (atR l i).f1 = IntKind.u64.wrap (f + IntKind.u64.wrap (i : Int))
  case neg => rw [if_neg h2, decide_eq_false (fun h : okS f l i => h2 h.1)]; rfl
  rw [if_pos h2]
  rcases Nat.eq_zero_or_pos i with h0 | hp
  · refine (if_pos (by omega)).trans ?_
    by_cases h3 : (atR l i).f0 = 1
    case neg => rw [if_neg h3, decide_eq_false (fun h : okS f l i => h3 (h.2.1 h0))]; rfl
    rw [if_pos h3, if_neg (by omega), decide_eq_true (show okS f l i from ⟨h2, fun _ => h3, fun h => by omega⟩)]
    rfl
  · have hw1 : wrap64 ((i : Int) - 1) = ((i - 1 : Nat) : Int) := by rw [IntWalk.wrap64_in _ (by omega)]; omega
    have hr1 : rd_T88 l ((i - 1 : Nat) : Int) = atR l (i - 1) := rfl
    rw [hw1, hr1]
    refine (if_neg (by omega)).trans ((if_pos (by omega)).trans ((if_pos (by omega)).trans ((if_pos (by omega)).trans ?_)))
    have : decide ((atR l i).f2 < (atR l (i - 1)).f2) = !decide (okS f l i) := by
      by_cases h4 : (atR l i).f2 < (atR l (i - 1)).f2
      · rw [decide_eq_true h4, decide_eq_false (fun h : okS f l i => by have := h.2.2 hp; omega)]; rfl
      · rw [decide_eq_false h4, decide_eq_true (show okS f l i from ⟨h2, fun h => by omega, fun _ => by omega⟩)]; rfl
    rw [this]
theorem stops_l0 {n f : Int} {l : List Rc} (hh : MayH n f) (hl : l.length ≤ 30) (hw : ∀ i, i < l.length → WfR (atR l i)) :
    ∀ (m i : Nat), i + m = l.length → ∀ (G : Nat) (stop : Bool), G ≤ i → (∀ j, j < G → okS f l j) → (stop = false → G = i) → (stop = true → G < i ∧ ¬ okS f l G) → (∀ j, j < i → MayS (atR l j)) → ∀ k, 45000 + 2 * m + 2 ≤ k →
      tiklaw16_SegStops.l0 k l (hdrL n f ++ catR (l.take i)) (G : Int) stop (posR l G) (i : Int) n f = some true
  | 0, i, hi, G, stop, hG, hs, hf, ht, hm, k, hk => by
    obtain ⟨k, rfl⟩ : ∃ j, k = j + 1 + 1 := ⟨k - 2, by omega⟩
    obtain rfl : i = l.length := by omega
    have hcl : ∀ m, m ≤ l.length → (catR (l.take m)).length ≤ 3040 * m := by
      intro m
      induction m with
      | zero => intro _; simp [catR]
      | succ m ih =>
        intro hm'
        have hr := hm m (by omega)
        have h1 := (enc_small hr.1 (by have := hr.2.2; omega)).1
        have h2 := ih (by omega)
        have e0 : (encR (atR l m)).length = (encL (atR l m).f0 (atR l m).f1 (atR l m).f2 (atR l m).f3).length := rfl
        rw [take_at l m (by omega), catR_app, catR_one, List.length_append]
        omega
    have hc := hcl l.length (Nat.le_refl _)
    have hb : Bytes255 (hdrL n f ++ catR l) := by
      intro x hx
      rcases List.mem_append.1 hx with hx | hx
      · exact hdr_bytes n f x hx
      · simp only [catR, List.mem_flatten, List.mem_map] at hx
        obtain ⟨y, ⟨r, hr, rfl⟩, hx⟩ := hx
        obtain ⟨i, hi, rfl⟩ := List.mem_iff_getElem.1 hr
        have e : atR l i = l[i] := by
          unfold atR rd_T88
          rw [Int.toNat_natCast, List.getD_eq_getElem?_getD, List.getElem?_eq_getElem hi]
          rfl
        have hmi := hm i hi
        rw [e] at hmi
        exact enc_bytes hmi.1 hmi.2.1 x hx
    have hno : G < l.length → ¬ okS f l G := by
      intro h
      cases stop
      · have := hf rfl; omega
      · exact (ht rfl).2
    rw [List.take_of_length_le (Nat.le_refl _)] at hc ⊢
    have hr := read_stops (n := n) hh hl hm hG hs hno hb (by rw [List.length_append, hdr_len]; omega) (k + 1) (by omega)
    rw [tiklaw16_SegStops.l0, if_neg (by omega), hr, Option.bind_some]
    refine (if_pos rfl).trans ((if_pos (by rw [parts_len])).trans ?_)
    dsimp only
    rw [bne_self_eq_false, tiklaw16_SegStops.j3, if_neg (by decide)]
    exact stops_l1 hG hl hm G 0 (by omega) k (by omega)
  | m + 1, i, hi, G, stop, hG, hs, hf, ht, hm, k, hk => by
    obtain ⟨k, rfl⟩ : ∃ j, k = j + 1 + 1 := ⟨k - 2, by omega⟩
    have hr : rd_T88 l (i : Int) = atR l i := rfl
    have hwi := hw i (by omega)
    by_cases hb : ((atR l i).f3.length : Int) > 300
    · rw [tiklaw16_SegStops.l0, if_pos (by omega), if_pos (by omega), hr, if_pos hb, sfirst_f (k + 1) (by omega), Option.bind_some]
    by_cases hmy : mayL (atR l i).f0 (atR l i).f1 (atR l i).f2 (atR l i).f3.length
    case neg =>
      have he := enc_f (k + 1) (atR l i).f0 (atR l i).f1 (atR l i).f2 (atR l i).f3 hwi.1 hwi.2.1 hwi.2.2 (by omega) (by omega)
      rw [if_neg hmy] at he
      rw [tiklaw16_SegStops.l0, if_pos (by omega), if_pos (by omega), hr, if_neg hb, he, Option.bind_some]
      refine (if_neg (by decide)).trans ?_
      rw [sfirst_f (k + 1) (by omega), Option.bind_some]
    have hmi : MayS (atR l i) := ⟨⟨hmy, hwi.1.1, hwi.2.1.1⟩, hwi.2.2, by omega⟩
    have hm' : ∀ j, j < i + 1 → MayS (atR l j) := by
      intro j hj
      rcases Nat.lt_or_ge j i with h | h
      · exact hm j h
      · obtain rfl : j = i := by omega
        exact hmi
    have hcl : (catR (l.take i)).length ≤ 3040 * i := by
      have all : ∀ m, m ≤ i → (catR (l.take m)).length ≤ 3040 * m := by
        intro m
        induction m with
        | zero => intro _; simp [catR]
        | succ m ih =>
          intro hm2
          have hr := hm m (by omega)
          have h1 := (enc_small hr.1 (by have := hr.2.2; omega)).1
          have h2 := ih (by omega)
          have e0 : (encR (atR l m)).length = (encL (atR l m).f0 (atR l m).f1 (atR l m).f2 (atR l m).f3).length := rfl
          rw [take_at l m (by omega), catR_app, catR_one, List.length_append]
          omega
      exact all i (Nat.le_refl _)
    have hes := (enc_small hmi.1 (by omega)).1
    have e0 : (encR (atR l i)).length = (encL (atR l i).f0 (atR l i).f1 (atR l i).f2 (atR l i).f3).length := rfl
    have hn : wrap64 ((i : Int) + 1) = ((i + 1 : Nat) : Int) := by rw [IntWalk.wrap64_in _ (by omega)]; omega
    have hX : (hdrL n f ++ catR (l.take i)) ++ encR (atR l i) = hdrL n f ++ catR (l.take (i + 1)) := by
      rw [take_at l i (by omega), catR_app, catR_one, List.append_assoc]
    have hXl : (((hdrL n f ++ catR (l.take (i + 1))).length : Nat) : Int) = posR l (i + 1) := by
      rw [List.length_append, hdr_len]
      unfold posR
      omega
    rw [stops_step (k + 1) f n _ _ l _ stop i (by omega) hl (by omega) hwi (by omega) hmy, tiklaw16_SegStops.j2]
    refine (if_pos (by rw [List.length_append, hdr_len]; omega)).trans ?_
    rw [Option.bind_some, hX, hXl, hn]
    cases hst : (stop || !decide (okS f l i))
    · rw [if_neg (by decide)]
      have h1 : stop = false := by cases stop <;> simp_all
      have h2 : okS f l i := by
        rw [h1, Bool.false_or] at hst
        exact of_decide_eq_true (by simpa using hst)
      have hGi := hf h1
      exact stops_l0 hh hl hw m (i + 1) (by omega) (i + 1) false (Nat.le_refl _) (fun j hj => by
        rcases Nat.lt_or_ge j i with h | h
        · exact hs j (by omega)
        · obtain rfl : j = i := by omega
          exact h2) (fun _ => rfl) (fun h => by cases h) hm' k (by omega)
    · rw [if_pos rfl]
      refine stops_l0 hh hl hw m (i + 1) (by omega) G true (by omega) hs (fun h => by cases h) (fun _ => ?_) hm' k (by omega)
      cases hs2 : stop
      · have h1 := hf hs2
        rw [hs2, Bool.false_or] at hst
        have h2 : ¬ okS f l i := of_decide_eq_false (by simpa using hst)
        exact ⟨by omega, by rw [h1]; exact h2⟩
      · have := ht hs2
        exact ⟨by omega, this.2⟩
theorem segStops_any (n f : Int) (l : List Rc) (hf : 0 ≤ f) (hw : ∀ i, i < l.length → WfR (atR l i)) : tiklaw16_SegStops.f 50000 n f l = some true := by
  have hh := header_f 50000 (by omega) n f
  unfold tiklaw16_SegStops.f
  rw [sfirst_f _ (by omega), Option.bind_some, if_pos rfl]
  by_cases h30 : (l.length : Int) > 30
  · rw [if_pos h30, Option.bind_some]
  rw [if_neg h30, hh, Option.bind_some]
  by_cases hM : MayH n f
  case neg =>
    rw [if_neg hM]
    refine (if_neg (by decide)).trans ?_
    dsimp only
    rw [show (50000 : Nat) = 49999 + 1 from rfl, tiklaw16_SegStops.j0, if_pos rfl, sfirst_f _ (by omega), Option.bind_some]
    rfl
  rw [if_pos hM]
  refine (if_pos rfl).trans ?_
  dsimp only
  have e1 : (((hdrL n f).length : Int) != 20) = false := by rw [hdr_len]; rfl
  rw [e1, show (50000 : Nat) = 49999 + 1 from rfl, tiklaw16_SegStops.j0, if_neg (by decide)]
  have := stops_l0 hM (by omega) hw l.length 0 (by omega) 0 false (Nat.le_refl _) (fun j hj => by omega) (fun _ => rfl) (fun h => by cases h) (fun j hj => by omega) 49999 (by omega)
  have e2 : hdrL n f ++ catR (l.take 0) = hdrL n f := by simp [catR]
  rw [e2, pos_zero] at this
  rw [hdr_len]
  exact this
end Go.Proofs.YtlgfmmkabnbllaaDoor.Hand
namespace Go.Proofs.YtlgfmmkabnbllaaDoor.RowSegStops
open Go.ChangeShapes Go.WideShapes Go.ChangeAt Go.RowKit
open Go.ChangeMaps (open_string shut_string)
open Go.Proofs.YtlgfmmkabnbllaaDoorW.PrintWords Go.Proofs.YtlgfmmkabnbllaaDoor.Opens
open Go.Proofs.YtlgfmmkabnbllaaDoor.Hand
open Go.Proofs.YtlgfmmkabnbllaaDoor.PS
open Go.Proofs.YtlgfmmkabnbllaaDoor
set_option linter.unusedVariables false
set_option linter.unusedSimpArgs false
theorem ownK : ownKnob Tryd.prog.godebug = none := by kernel_rfl
theorem laidOut : laidOutB Tryd.prog = true := by kernel_rfl
theorem o88 : Opens Tryd.prog 88 PS.k88 (fun b => (Lit.int .i64 b.f0).wf = true ∧ (Lit.int .u64 b.f1).wf = true ∧ (Lit.int .u64 b.f2).wf = true ∧ (b.f3.length ≤ maxLen ∧ ∀ x ∈ b.f3, (Lit.int .u8 x).wf = true)) := o_map (f := fun x : PS.S88 => (x.f0, x.f1, x.f2, x.f3)) (o_struct Tryd.underlying88 (by kernel_rfl) (f_cons rfl (by kernel_rfl) (o_int Tryd.underlying3) (f_cons rfl (by kernel_rfl) (o_int Tryd.underlying28) (f_cons rfl (by kernel_rfl) (o_int Tryd.underlying28) (f_last rfl (by kernel_rfl) (o_slice Tryd.underlying64 (by kernel_rfl) (o_int Tryd.underlying5))))))) (fun p => ⟨p.1, p.2.1, p.2.2.1, p.2.2.2⟩) (fun _ => rfl)
abbrev laid2 : List (String × DataW Unit) := [("math/bits.deBruijn32tab", Rows.laid_math_bits_deBruijn32tab), ("math/bits.deBruijn64tab", Rows.laid_math_bits_deBruijn64tab), ("internal/strconv.uint64pow10", Rows.laid_internal_strconv_uint64pow10)]
set_option maxRecDepth 100000 in
theorem door_met (os : Os) (args : Array Value) : laidMetH Tryd.prog laid2 ((World.doorLaid Tryd.prog 400 os).forCall (fun _ _ => 0) ⟨#[], args, []⟩).memory :=
  laidMetH_of_parts3 (fuel := 8) (laidMet_of_run' 8 (by kernel_rfl) (by kernel_rfl)) (by kernel_rfl) (by kernel_rfl)
set_option maxRecDepth 100000 in
theorem lifted (os : Os) (started : os.Started) (H : Type) (enc : TypeId × Value → H) :
    ReturnsInHanded {} Tryd.checked os 11 .any (fun w args => (Rows.segStopsSpec.pre enc Tryd.prog Tryd.f11 [] false w args ∧ laidMetH Tryd.prog laid2 w) ∧ sizedMet enc Tryd.prog Tryd.f11 (OpenSpec.ofChange Rows.segStopsSpec) false w args)
      (Rows.segStopsSpec.post enc Tryd.prog Tryd.f11 false true false false) := by
  refine returnsInHanded_of_change_and (C := Tryd.checked) (X := fun w _ => laidMetH Tryd.prog laid2 w) (fun _ _ _ hh h => h.of_heap hh) ownK started (by kernel_rfl) Tryd.func11
    (ChangeSpec.witness_shaped (enc := enc) (C := Tryd.checked) (os := os) (X := fun w _ => laidMetH Tryd.prog laid2 w) false (World.doorLaid Tryd.prog 400 os) #[.agg #[.int .i64 0, .int .u64 0], .slice none 0 0] 8 rfl (World.shaped_of_RefB (by kernel_rfl) (by kernel_rfl)) (by kernel_rfl) (by kernel_rfl) (by kernel_rfl) (door_met os _)) ?_
  intro W base args ds gs before hval0 hW _ hsz0 hT _
  have hsz : (DataW.weightsEach Tryd.prog (Tryd.f11.params.toList ++ Rows.segStopsSpec.plain.varTypes Tryd.prog) (ds ++ gs)).all (· ≤ reachBytes) = true := hsz0
  have hval : ∀ (j : Nat) t v, Tryd.f11.params[j]? = some t → args[j]? = some v → Value.okWide Tryd.prog W .any base t v := hval0
  have hW' := hW
  obtain ⟨p, q, hA0, hV, rfl, hfz, hnd⟩ := hW
  have hA : DataW.TrodAll enc Tryd.prog W 0 (fun _ => true) true Tryd.f11.params.toList args.toList ds p := hA0
  rw [Tryd.params11] at hA hval hsz
  obtain ⟨v0, vs0, d0, ds0, p0, q0, hargs, rfl, rfl, h0, r0⟩ := trodAll_cons hA
  obtain ⟨v1, vs1, d1, ds1, p1, q1, rfl, rfl, rfl, h1, r1⟩ := trodAll_cons r0
  obtain ⟨rfl, rfl, rfl⟩ := trodAll_nil r1
  obtain rfl : args = #[v0, v1] := by cases args; simp_all
  obtain ⟨rfl, rfl⟩ := trodVars_none hV
  have k0 := h0
  have lt0 : ∀ x ∈ p0, x.block < W.heap.size := by obtain ⟨m, hm⟩ := k0; exact DataW.trod_lt m _ _ _ hm
  obtain ⟨⟨c0_0, c0_1⟩, ⟨_, _, gc0_0, fc0_0, fc0_1⟩, u0⟩ := open_arg (o_struct Tryd.underlying63 (by kernel_rfl) (f_cons rfl (by kernel_rfl) (o_int Tryd.underlying3) (f_last rfl (by kernel_rfl) (o_int Tryd.underlying28)))) h0
  have e0 : v0.cells.toList = _ := gc0_0
  simp only [Kd.int, Kd.bool, Kd.string, kFloat, Kd.scalar] at fc0_0 fc0_1
  simp only [fc0_0, fc0_1, List.cons_append, List.nil_append] at e0
  have e0' := agg_of Tryd.underlying63 (hval 0 63 v0 rfl rfl) e0
  subst e0'
  have k1 := h1
  have lt1 : ∀ x ∈ p1, x.block < W.heap.size := by obtain ⟨m, hm⟩ := k1; exact DataW.trod_lt m _ _ _ hm
  obtain ⟨l1, ⟨A1, c1, e1, hc1, hC1⟩, q1⟩ := open_arg (o_slice Tryd.underlying86 (by kernel_rfl) o88) h1
  obtain ⟨_, _, _, z1⟩ := okWide_slice Tryd.underlying86 (hval 1 86 v1 rfl rfl)
  obtain rfl : v1 = .slice A1 l1.length c1 := by subst z1; simpa [Value.cells] using e1
  have y1 := sized_any hsz (j := 1) (t := 86) rfl rfl Tryd.underlying86 h1
  clear hA0 hval0
  refine (tiklaw16_SegStops.calls 50000 c0_0 c0_1 A1 c1 l1 true W hC1 hc1 (tabI_of hT) ⟨rfl⟩ (segStops_any c0_0 c0_1 l1 (by have := bounds_u64 (show (Lit.int .u64 c0_1).wf = true from u0.2); omega) (fun i hi => by have z := q1.2 _ (at_mem l1 i hi); have z1 := bounds_u64 z.2.1; have z2 := bounds_u64 z.2.2.1; exact ⟨⟨by omega, by omega⟩, ⟨by omega, by omega⟩, fun x hx => by have := bounds_u8 (z.2.2.2.2 x hx); omega⟩))).mono fun e W' ⟨he, bel⟩ => ?_
  subst he
  exact ⟨_, rfl, _, _, _, [], _, [], hW', trodAll_mk1 (shut_bool Tryd.underlying4 _), (trodAll_cons_mk (Below.trod laidOut (by kernel_rfl) (of_decide_eq_true (by kernel_rfl)) k0 bel lt0) (trodAll_cons_mk (Below.trod laidOut (by kernel_rfl) (of_decide_eq_true (by kernel_rfl)) k1 bel lt1) trodAll_mk0)), rfl, bel.frame _, fun h => by cases h⟩
theorem over : Rows.segStopsRow.holds Tryd.pinned (OpenSpec.ofChange Rows.segStopsSpec) :=
  OpenClaim.holds_of_wide 11 Tryd.f11 rfl rfl rfl rfl rfl rfl rfl ⟨rfl, rfl, rfl, rfl, rfl⟩ rfl rfl rfl rfl rfl (by kernel_rfl) Tryd.func11 (by kernel_rfl)
    (of_decide_eq_true (by kernel_rfl)) (by unfold Func.isWrapper; first | (rw [if_pos (by decide +kernel)]; kernel_rfl) | (rw [if_neg (by decide +kernel)]; exact ⟨rfl, rfl⟩))
    (fun os started H enc _ => lifted os started H enc)
theorem card : Rows.SegStopsCardSaid :=
  Claim7.holds_tied_plain_at .later [] [.data, .data, .data] true (true, "f4cce56c052b8147ed0d96dfe40f3886e39b5e64f551fd0da9ae368612f96104") true
    over (fun _ h => by cases h) (by kernel_rfl) (fun _ h => by cases h) segStops_row_tie rfl ⟨rfl, rfl⟩ (by kernel_rfl) rfl
    (fun f fn hf hfn => by
      obtain rfl : f = 11 := Option.some.inj ((show Tryd.prog.funcNamed "tickertape/tiklaw16.SegStops" = some 11 by kernel_rfl).symm.trans hf) |>.symm
      obtain rfl : fn = Tryd.f11 := (Option.some.inj (Tryd.func11.symm.trans hfn)).symm
      exact ⟨by kernel_rfl, fun j t ht => by
        rw [Tryd.params11] at ht
        have hm : t ∈ [63, 86] := by simpa using Array.mem_of_getElem? ht
        have hall : ([63, 86].all fun u => !Tryd.prog.wantsStandIn u) = true := by kernel_rfl
        exact (show Tryd.prog.wantsStandIn t = false by simpa using List.all_eq_true.1 hall t hm)⟩)
    (by kernel_rfl)
#print axioms card
end Go.Proofs.YtlgfmmkabnbllaaDoor.RowSegStops
namespace Go.Proofs.YtlgfmmkabnbllaaDoor
theorem segStops_holds : Rows.SegStopsCardSaid := RowSegStops.card
end Go.Proofs.YtlgfmmkabnbllaaDoor
