/- Texts of this claim, put together. -/
import Derived.Test.YtdklanenmihpdaaMFPc
import Derived.Deep.CutRange
import Derived.Deep.CutBlock
import Derived.Test.YtdklanenmihpdaaRows
import Derived.Test.YtdklanenmihpdaaMFPb
import Derived.WalkKit
import Derived.ProofKit
import Derived.OpenShut
import Derived.ShutString
import Derived.ChangeOld
import Derived.Below
import Derived.SizedLaws
set_option linter.unusedVariables false
set_option linter.unusedSimpArgs false
namespace Go.Proofs.Ytdklanenmihpdaa.Hand
open Go.RowKit Go.Proofs.YtdklanenmihpdaaW.PrintWords Go.Proofs.YtdklanenmihpdaaW.PrintLast Go.Proofs.YtdklanenmihpdaaW.PrintMore Go.Proofs.Ytdklanenmihpdaa.PA Go.Proofs.Ytdklanenmihpdaa.PC Go.Proofs.Ytdklanenmihpdaa.Chunks
def GInv (id n : Int) (told : Bool) (ps : List (List Int)) : Prop :=
  (id = 0 ∧ n = 0 ∧ told = false ∧ ps = []) ∨ (1 ≤ id ∧ n = ps.length ∧ 1 ≤ ps.length ∧ (told = true ↔ haveN ps = ps.length))
theorem set_same (ps : List (List Int)) (i : Nat) (hi : i < ps.length) {q : List Int} (h : ps.getD i noP = q) : ps.set i q = ps := by
  refine List.ext_getElem? fun j => ?_
  by_cases e : i = j
  · subst e
    rw [List.getElem?_set_self hi, ← h, List.getD_eq_getElem?_getD, List.getElem?_eq_getElem hi]; rfl
  · rw [List.getElem?_set_ne e]
theorem have_less (ps : List (List Int)) (i : Nat) (hi : i < ps.length) (h : ps.getD i noP = noP) : haveN ps < ps.length := by
  apply Decidable.byContradiction
  intro h2
  exact have_all ps h2 i hi h
theorem put_doc {id n : Int} {told : Bool} {ps : List (List Int)} (I : GInv id n told ps) {l : List Int} (hb : ∀ x ∈ l, 0 ≤ x ∧ x < 256) :
    ∃ told', refV id n told ps l = (((putV id n ps l).1.1, (putV id n ps l).1.2.1, told', (putV id n ps l).1.2.2), (putV id n ps l).2) ∧ GInv (putV id n ps l).1.1 (putV id n ps l).1.2.1 told' (putV id n ps l).1.2.2 := by
  unfold refV putV
  cases hr : readV l with
  | none => exact ⟨told, rfl, I⟩
  | some q =>
  obtain ⟨pid, pat, pn, b⟩ := q
  obtain ⟨r1, r2, r3, r4, r5, r6⟩ := readV_ok hb hr
  obtain ⟨at', rfl⟩ := Int.eq_ofNat_of_zero_le r2
  obtain ⟨n', rfl⟩ := Int.eq_ofNat_of_zero_le (show 0 ≤ pn by omega)
  have hbn : b ≠ noP := noP_bytes r5
  dsimp only
  simp only [Int.toNat_natCast]
  unfold docV takeV
  by_cases c1 : pid < id
  · rw [if_pos c1, if_pos c1]
    exact ⟨told, rfl, I⟩
  rw [if_neg c1, if_neg c1]
  by_cases c2 : id < pid
  · rw [if_pos c2, if_pos c2]
    obtain ⟨PQ, hPQ⟩ : ∃ PQ, (List.replicate n' noP).set at' b = PQ := ⟨_, rfl⟩
    have hl : PQ.length = n' := by rw [← hPQ, List.length_set, List.length_replicate]
    rw [hPQ]
    unfold docS
    rw [if_neg (by simp), hl]
    have hle := haveN_le PQ
    by_cases c3 : haveN PQ < n'
    · rw [if_pos c3, if_pos c3]
      exact ⟨false, rfl, .inr ⟨r1.1, by show (n' : Int) = PQ.length; omega, by show 1 ≤ PQ.length; omega, by show false = true ↔ haveN PQ = PQ.length; simp; omega⟩⟩
    · rw [if_neg c3, if_neg c3]
      exact ⟨true, rfl, .inr ⟨r1.1, by show (n' : Int) = PQ.length; omega, by show 1 ≤ PQ.length; omega, by show true = true ↔ haveN PQ = PQ.length; simp; omega⟩⟩
  rw [if_neg c2, if_neg c2]
  obtain ⟨i1, i2, i3, i4⟩ : 1 ≤ id ∧ n = ps.length ∧ 1 ≤ ps.length ∧ (told = true ↔ haveN ps = ps.length) := by
    rcases I with ⟨e, _⟩ | h
    · omega
    · exact h
  have hle := haveN_le ps
  by_cases c3 : (n' : Int) = n
  case neg =>
    rw [if_neg c3, if_neg (fun h => c3 h.1), if_neg (fun h => c3 h.1)]
    exact ⟨told, rfl, I⟩
  rw [if_pos c3]
  have hat : at' < ps.length := by omega
  by_cases c4 : ps.getD at' noP = noP
  · rw [if_pos c4, if_pos ⟨c3, c4⟩]
    have hls := have_less ps at' hat c4
    obtain ⟨PQ, hPQ⟩ : ∃ PQ, ps.set at' b = PQ := ⟨_, rfl⟩
    have hl : PQ.length = ps.length := by rw [← hPQ, List.length_set]
    rw [hPQ]
    have ht : told = false := by
      cases told with
      | false => rfl
      | true => have := i4.1 rfl; omega
    subst ht
    unfold docS
    rw [if_neg (by simp), ← hl]
    have hle2 := haveN_le PQ
    by_cases c5 : haveN PQ < PQ.length
    · rw [if_pos c5, if_pos c5]
      exact ⟨false, rfl, .inr ⟨i1, by show n = (PQ.length : Int); omega, by show 1 ≤ PQ.length; omega, by show false = true ↔ haveN PQ = PQ.length; simp; omega⟩⟩
    · rw [if_neg c5, if_neg c5]
      exact ⟨true, rfl, .inr ⟨i1, by show n = (PQ.length : Int); omega, by show 1 ≤ PQ.length; omega, by show true = true ↔ haveN PQ = PQ.length; simp; omega⟩⟩
  · rw [if_neg c4, if_neg (show ¬ ((n' : Int) = n ∧ ps.getD at' noP = noP) from fun h => c4 h.2)]
    by_cases c5 : ps.getD at' noP = b
    · rw [if_pos c5, if_pos ⟨c3, c5⟩, set_same ps at' hat c5]
      unfold docS
      by_cases ht : told = true
      · rw [if_pos ht]
        exact ⟨told, rfl, .inr ⟨i1, i2, i3, i4⟩⟩
      · rw [if_neg ht, if_pos (by
          rcases Nat.lt_or_ge (haveN ps) ps.length with h | h
          · exact h
          · exact absurd (i4.2 (by omega)) ht)]
        exact ⟨told, rfl, .inr ⟨i1, i2, i3, i4⟩⟩
    · rw [if_neg c5, if_neg (show ¬ ((n' : Int) = n ∧ ps.getD at' noP = b) from fun h => c5 h.2)]
      exact ⟨told, rfl, I⟩
theorem var_len (a : Int) (h0 : 0 ≤ a) (h1 : a < 18446744073709551616) : (varL 9 a).length ≤ 100 := by
  obtain ⟨F, c, eV, hF, c0, c1, hl⟩ := varL_front 9 a h0 (by simp only [Int.reducePow, Int.reduceMul]; omega)
  rw [eV]; simp; omega
theorem seg_mn (l : List Int) (i : Nat) (hl : l.length ≤ 5000) (hi : i < nparts l) : (l.take ((mn (((i : Int) + 1) * 256) (l.length : Int)) : Int).toNat).drop (((i : Int) * 256) : Int).toNat = segN l i := by
  have e1 : ((i : Int) * 256).toNat = 256 * i := by omega
  have e2 : (mn (((i : Int) + 1) * 256) (l.length : Int)).toNat = min (256 * i + 256) l.length := by
    unfold mn; split <;> omega
  rw [e1, e2]
  unfold segN
  rw [List.drop_take]
  by_cases h : 256 * i + 256 ≤ l.length
  · rw [Nat.min_eq_left h, show 256 * i + 256 - 256 * i = 256 by omega]
  · rw [Nat.min_eq_right (by omega), List.take_of_length_le (by rw [List.length_drop]; exact Nat.le_refl _), List.take_of_length_le (by rw [List.length_drop]; omega)]
theorem doc_cut_l (a : Int) (l : List Int) (h1 : 1 ≤ a) (h2 : a ≤ 4611686018427387904) (hl : l.length ≤ 5000) :
    ∀ (m i k : Nat) (acc : List (List Int)), i + m = nparts l → acc.length = i → 12 + m ≤ k → tikref25_Cut.l0 k a l ((nparts l : Nat) : Int) acc (i : Int) = some (acc ++ (List.range' i m).map (fun j => partL a j (nparts l) (segN l j)), 0) := by
  intro m
  induction m with
  | zero =>
    intro i k acc hi _ hk
    obtain ⟨k, rfl⟩ : ∃ j, k = j + 1 := ⟨k - 1, by omega⟩
    rw [tikref25_Cut.l0, if_neg (by omega)]
    simp
  | succ m ihm =>
    intro i k acc hi ha hk
    obtain ⟨k, rfl⟩ : ∃ j, k = j + 1 := ⟨k - 1, by omega⟩
    have hs := nparts_small hl
    have hin : i < nparts l := by omega
    have hlen : 256 * i ≤ l.length := by unfold nparts nch at hin; omega
    rw [tikref25_Cut.l0, if_pos (by omega), refVar_any k (by omega) a (by omega) (by omega)]
    rw [show IntKind.u64.wrap (i : Int) = (i : Int) from IntWalk.u64_in _ (by omega), refVar_any k (by omega) (i : Int) (by omega) (by omega)]
    rw [show IntKind.u64.wrap ((nparts l : Nat) : Int) = ((nparts l : Nat) : Int) from IntWalk.u64_in _ (by omega), refVar_any k (by omega) ((nparts l : Nat) : Int) (by omega) (by omega)]
    have v1 := var_len a (by omega) (by omega)
    have v2 := var_len (i : Int) (by omega) (by omega)
    have v3 := var_len ((nparts l : Nat) : Int) (by omega) (by omega)
    have W1 := Aside0.mk (IntWalk.wrap64_in ((i : Int) * 256) (by omega))
    have W2 := Aside0.mk (IntWalk.wrap64_in ((i : Int) + 1) (by omega))
    have W3 := Aside0.mk (IntWalk.wrap64_in (((i : Int) + 1) * 256) (by omega))
    simp only [Option.bind_some, W1.out, W2.out, W3.out]
    have hm := seg_mn l i hl hin
    have hml : mn (((i : Int) + 1) * 256) (l.length : Int) ≤ l.length := by unfold mn; split <;> omega
    have hmg : (i : Int) * 256 ≤ mn (((i : Int) + 1) * 256) (l.length : Int) := by unfold mn; split <;> omega
    have hsl : (segN l i).length ≤ 256 := by rw [segN_len]; unfold chLen; omega
    rw [if_pos (by omega), if_pos (by rw [List.length_append]; omega), if_pos (by omega), if_pos hmg, if_pos hml, hm, if_pos (by simp only [List.length_append]; omega), if_pos (by omega)]
    have ih := ihm (i + 1) k (acc ++ [varL 9 a ++ varL 9 (i : Int) ++ varL 9 ((nparts l : Nat) : Int) ++ segN l i]) (by omega) (by rw [List.length_append, ha]; rfl) (by omega)
    rw [show ((i + 1 : Nat) : Int) = (i : Int) + 1 by omega] at ih
    rw [ih, List.range'_succ, List.map_cons, List.append_assoc]
    unfold partL
    simp
theorem doc_cut {a : Int} {l : List Int} (h0 : 0 ≤ a) (h1 : a < 18446744073709551616) (hl : l.length ≤ 5000) (hb : ∀ x ∈ l, 0 ≤ x ∧ x < 256) : ∃ r e, frag_Cut.f a l = some (r, e) ∧ tikref25_Cut.f 60 a l = some (r, e) ∧ r.length ≤ 20 ∧ (e = 0 ∨ r = []) ∧ ∀ p ∈ r, ∀ x ∈ p, 0 ≤ x ∧ x < 256 := by
  unfold frag_Cut.f tikref25_Cut.f
  by_cases c1 : a < 1
  · rw [if_pos c1, if_pos c1]
    exact ⟨_, _, rfl, by rw [show (60 : Nat) = 59 + 1 from rfl, tikref25_Cut.j0, if_pos rfl], by simp, .inr rfl, by simp⟩
  rw [if_neg c1, if_neg c1]
  by_cases c2 : 4611686018427387904 < a
  · rw [if_pos c2]
    exact ⟨_, _, rfl, by rw [show (60 : Nat) = 59 + 1 from rfl, tikref25_Cut.j0, decide_eq_true c2, if_pos rfl], by simp, .inr rfl, by simp⟩
  rw [if_neg c2, if_neg (by omega), if_pos (List.all_eq_true.2 (fun x hx => byteB_iff.2 (hb x hx)))]
  have hs := nparts_small hl
  refine ⟨_, _, rfl, ?_, by rw [cutL_len]; omega, .inl rfl, ?_⟩
  · rw [show (60 : Nat) = 59 + 1 from rfl, tikref25_Cut.j0, decide_eq_false (show ¬ a > 4611686018427387904 by omega), if_neg (by simp), if_neg (by omega)]
    have e1 : mx (wrap64 (Int.tdiv (wrap64 ((wrap64 ((l.length : Int) + 256)) - 1)) 256)) 1 = ((nparts l : Nat) : Int) := by
      rw [IntWalk.wrap64_in ((l.length : Int) + 256) (by omega), IntWalk.wrap64_in ((l.length : Int) + 256 - 1) (by omega), Int.tdiv_eq_ediv_of_nonneg (by omega), IntWalk.wrap64_in _ (by omega)]
      unfold mx nparts nch
      split <;> omega
    rw [e1]
    have := doc_cut_l a l (by omega) (by omega) hl (nparts l) 0 59 [] (by omega) rfl (by omega)
    rw [show ((0 : Nat) : Int) = 0 from rfl] at this
    rw [this, List.nil_append, ← List.range_eq_range']
    congr 2
    unfold cutL cutOf
    rw [pieces_len]
    refine List.map_congr_left fun j hj => ?_
    rw [pieces_get l j (List.mem_range.1 hj)]
  · intro p hp
    obtain ⟨i, hi, rfl⟩ := List.mem_iff_getElem.1 hp
    have hi2 : i < nparts l := by rw [cutL_len] at hi; exact hi
    have := (cut_bytes (a := a) (l := l) (by omega) (by omega) (by omega) hb i hi2).1
    rwa [List.getD_eq_getElem?_getD, List.getElem?_eq_getElem hi] at this
def sumT : List (List Int) → Nat
  | [] => 0
  | p :: ps => min p.length 20001 + sumT ps
theorem sumT_snoc : ∀ (ps : List (List Int)) (i : Nat), i < ps.length → sumT (ps.take (i + 1)) = sumT (ps.take i) + min (ps.getD i []).length 20001
  | [], i, h => by simp at h
  | p :: ps, 0, _ => by simp only [List.take_succ_cons, List.take_zero, sumT, List.getD_cons_zero]; omega
  | p :: ps, i + 1, h => by
    have := sumT_snoc ps i (by simpa using h)
    simp only [List.take_succ_cons, sumT, List.getD_cons_succ]
    omega
theorem sumT_le : ∀ ps : List (List Int), sumT ps ≤ 20001 * ps.length
  | [] => Nat.le_refl _
  | p :: ps => by have := sumT_le ps; simp only [sumT, List.length_cons]; omega
theorem sumT_each : ∀ (ps : List (List Int)) (i : Nat), i < ps.length → min (ps.getD i []).length 20001 ≤ sumT ps
  | [], i, h => by simp at h
  | p :: ps, 0, _ => by simp only [sumT, List.getD_cons_zero]; omega
  | p :: ps, i + 1, h => by
    have := sumT_each ps i (by simpa using h)
    simp only [sumT, List.getD_cons_succ]
    omega
end Go.Proofs.Ytdklanenmihpdaa.Hand
namespace Go.Proofs.Ytdklanenmihpdaa.Hand
open Go.RowKit Go.Maps Go.Proofs.YtdklanenmihpdaaW.PrintWords Go.Proofs.YtdklanenmihpdaaW.PrintLast Go.Proofs.YtdklanenmihpdaaW.PrintMore Go.Proofs.Ytdklanenmihpdaa.PA Go.Proofs.Ytdklanenmihpdaa.PC Go.Proofs.Ytdklanenmihpdaa.Chunks
set_option linter.unusedSimpArgs false
set_option linter.unusedVariables false
set_option maxRecDepth 100000
structure Duo (W0 wr : World) (g h : Nat) (id n : Int) (told : Bool) (ps : List (List Int)) (O1 O2 : Nat → Prop) : Prop where
  inv : GInv id n told ps
  gat : GatAt wr O1 g id n ps
  ref : RefAt wr O2 h id n told ps
  o1 : ∀ k, O1 k → W0.heap.size ≤ k ∧ k < wr.heap.size
  o2 : ∀ k, O2 k → W0.heap.size ≤ k ∧ k < wr.heap.size
  ap : ∀ k, O1 k → ¬ O2 k
  bel : Below W0.heap.size W0 wr
section
variable {W0 wr w5 w8 : World} {g h : Nat} {id n id' n' : Int} {told told' : Bool} {ps ps' : List (List Int)} {O1 O2 : Nat → Prop}
theorem Duo.code (D : Duo W0 wr g h id n told ps O1 O2) : GatAt wr (fun k => O1 k ∨ wr.heap.size ≤ k) g id n ps := D.gat.mono (fun _ _ ho => .inl ho)
theorem Duo.bel5 (D : Duo W0 wr g h id n told ps O1 O2) (hm5 : Mu (fun k => O1 k ∨ wr.heap.size ≤ k) wr w5) : Below W0.heap.size W0 w5 :=
  Mu.below_of D.bel hm5 (fun k hk ho => by
    have := D.bel.size
    rcases ho with ho | ho
    · have := (D.o1 k ho).1; omega
    · omega)
theorem Duo.doc (D : Duo W0 wr g h id n told ps O1 O2) (hm5 : Mu (fun k => O1 k ∨ wr.heap.size ≤ k) wr w5) : RefAt w5 (fun k => O2 k ∨ w5.heap.size ≤ k) h id n told ps :=
  D.ref.step (fun k hk hl => hm5.block k hl (by
    rintro (ho | ho)
    · exact D.ap k ho hk
    · omega)) (fun _ _ ho => .inl ho)
theorem Duo.next (D : Duo W0 wr g h id n told ps O1 O2) (hm5 : Mu (fun k => O1 k ∨ wr.heap.size ≤ k) wr w5) (hG : GatAt w5 (fun k => O1 k ∨ wr.heap.size ≤ k) g id' n' ps') (hm8 : Mu (fun k => O2 k ∨ w5.heap.size ≤ k) w5 w8) (hR : RefAt w8 (fun k => O2 k ∨ w5.heap.size ≤ k) h id' n' told' ps') (hI : GInv id' n' told' ps') :
    Duo W0 w8 g h id' n' told' ps' (fun k => (O1 k ∨ wr.heap.size ≤ k) ∧ k < w5.heap.size) (fun k => (O2 k ∨ w5.heap.size ≤ k) ∧ k < w8.heap.size) := by
  have s0 := D.bel.size
  have s5 := hm5.size
  have s8 := hm8.size
  refine ⟨hI, (hG.mono (fun k hk ho => ⟨ho, hk⟩)).step (fun k hk hl => hm8.block k hl ?_), hR.step (fun _ _ _ => rfl) (fun k hl ho => ⟨ho, hl⟩), ?_, ?_, ?_, ?_⟩
  · rintro (ho | ho)
    · have := (D.o2 k ho).2
      rcases hk.1 with hk | hk
      · exact D.ap k hk ho
      · omega
    · omega
  · rintro k ⟨ho | ho, hk⟩
    · have := D.o1 k ho; omega
    · omega
  · rintro k ⟨ho | ho, hk⟩
    · have := D.o2 k ho; omega
    · omega
  · rintro k ⟨ho, hk⟩ ⟨h2 | h2, _⟩
    · have := (D.o2 k h2).2
      rcases ho with ho | ho
      · exact D.ap k ho h2
      · omega
    · omega
  · refine Mu.below_of (D.bel5 hm5) hm8 (fun k hk ho => ?_)
    rcases ho with ho | ho
    · have := (D.o2 k ho).1; omega
    · omega
theorem Duo.row (D : Duo W0 wr g h id n told ps O1 O2) (hm5 : Mu (fun k => O1 k ∨ wr.heap.size ≤ k) wr w5) (hm8 : Mu (fun k => O2 k ∨ w5.heap.size ≤ k) w5 w8) {A : Option Addr} {c : Nat} {m : List Int} (hR5 : Kd.R (Kd.int .u8) 5 w5 wr.heap.size (fun _ => True) (.slice A m.length c) m) : Kd.C (Kd.int .u8) w8 A m.length m :=
  Kd.F_now (Kd.F_step (Kd.F_bound (Kd.R_F (Kd.R_bound hR5))) (fun k hk hl => hm8.block k hl (by
    have := hk.1.2.1
    rintro (ho | ho)
    · have := (D.o2 k ho).2; omega
    · omega)))
theorem Duo.below (D : Duo W0 wr g h id n told ps O1 O2) (hb : Below wr.heap.size wr w5) : Duo W0 w5 g h id n told ps O1 O2 :=
  ⟨D.inv, D.gat.below hb, D.ref.below hb, fun k ho => by have := D.o1 k ho; have := hb.size; omega, fun k ho => by have := D.o2 k ho; have := hb.size; omega, D.ap, below_step D.bel hb⟩
theorem Duo.cell (D : Duo W0 wr g h id n told ps O1 O2) : wr.cell? ⟨h, 0, none⟩ = some (.int .u64 id) := by
  rcases D.ref.2 with ⟨rfl, rfl, rfl, rfl, h5⟩ | ⟨_, _, _, hb, hc, pb, pc, h4, _⟩
  · exact blk_cell h5 0
  · exact blk_cell h4 0
end
theorem bytes_eq (m : List Int) : tikref_Bytes.f m m = some true := by unfold tikref_Bytes.f; simp
set_option maxHeartbeats 16000000 in
theorem puts_any {w : World} {a0 : Int} {A1 : Option Addr} {c1 : Nat} {la : List Int} {A2 : Option Addr} {c2 : Nat} {l2 : List (List Int)} (h0 : 0 ≤ a0) (h1 : a0 < 18446744073709551616) (hr1 : Kd.C (Kd.int .u8) w A1 la.length la) (hc1 : la.length ≤ c1)
    (hr2 : Kd.C (Kd.slice 5 (Kd.int .u8)) w A2 l2.length l2) (hc2 : l2.length ≤ c2) (hb1 : ∀ x ∈ la, 0 ≤ x ∧ x < 256) (hb2 : ∀ p ∈ l2, ∀ x ∈ p, 0 ≤ x ∧ x < 256) :
    Calls Try.prog 6 #[.int .u64 a0, .slice A1 la.length c1, .slice A2 l2.length c2] w fun e w' => e = .returned (.bool true) ∧ Below w.heap.size w w' := by
  have HA := Aside0.mk (And.intro hr1 (And.intro hc1 hb1))
  have HB := Aside0.mk (And.intro hr2 (And.intro hc2 hb2))
  have H0 := Aside0.mk (And.intro h0 h1)
  clear hr1 hc1 hr2 hc2 hb1 hb2 h0 h1
  go_enter Try.func6, Try.ntmps6
  go_wp2_with fail
  refine (tiklaw26_first.calls true w rfl).mono ?_
  rintro en w1 ⟨rfl, hbw1⟩
  have HW1 := Aside0.mk hbw1
  clear hbw1
  go_upto_block 0 with fail
  go_cut [7, 8] from 25 to 42 (fun s7 s8 wx => ∃ (W : World) (N i : Nat), W = wx ∧ s7 = .int .i64 (N : Int) ∧ s8 = .int .i64 (i : Int) ∧ Aside0 (Below w.heap.size w W ∧ (l2.length ≤ 100 → N = sumT l2)))
  case first =>
    go_wp2_with fail
    go_loopw [7, 8, 25, 26, 27, 28, 29, 30, 31, 32, 33, 34, 35, 36, 37, 38, 39, 40, 41, 42] (fun v7 v8 v25 v26 v27 v28 v29 v30 v31 v32 v33 v34 v35 v36 v37 v38 v39 v40 v41 v42 wr => ∃ i : Nat, i ≤ l2.length ∧ i ≤ 100 ∧ v8 = .int .i64 (i : Int) ∧ v7 = .int .i64 ((sumT (l2.take i) : Nat) : Int) ∧ wr = w1)
      (fun v7 v8 v25 v26 v27 v28 v29 v30 v31 v32 v33 v34 v35 v36 v37 v38 v39 v40 v41 v42 _ => l2.length - (intOf v8).toNat)
    case atStart => exact ⟨0, Nat.zero_le _, Nat.zero_le _, rfl, rfl, rfl⟩
    case round =>
      obtain ⟨i, hi, hi2, rfl, rfl, rfl⟩ := hrel
      obtain ⟨X, hX⟩ : ∃ X, sumT (l2.take i) = X := ⟨_, rfl⟩
      rw [hX]
      have hXb : X ≤ 2000100 := by rw [← hX]; have := sumT_le (l2.take i); rw [List.length_take] at this; omega
      have HX := Aside0.mk (And.intro hX (And.intro hi (And.intro hi2 hXb)))
      clear hX hi
      by_cases hlt : i < l2.length
      case neg =>
        have HM : Aside0 (Below w.heap.size w wr ∧ (l2.length ≤ 100 → X = sumT l2)) := ⟨HW1.out, fun _ => by rw [← HX.out.1, List.take_of_length_le (by omega)]⟩
        go_wp2_with fail
        go_meet
        case rel => exact ⟨_, X, i, rfl, rfl, rfl, HM⟩
      by_cases h100 : i < 100
      case neg =>
        have HM : Aside0 (Below w.heap.size w wr ∧ (l2.length ≤ 100 → X = sumT l2)) := ⟨HW1.out, fun _ => by omega⟩
        go_wp2_with fail
        go_meet
        case rel => exact ⟨_, X, i, rfl, rfl, rfl, HM⟩
      obtain ⟨ad2, eA2, _⟩ := (Kd.C_below HB.out.1 HW1.out).2.2 (by omega)
      subst eA2
      obtain ⟨Ai, ci, hcl, _, _⟩ := rows_getN (Kd.C_below HB.out.1 HW1.out) i hlt
      have HS := Aside0.mk (sumT_snoc l2 i hlt)
      obtain ⟨pi, hpi⟩ : ∃ pi, l2.getD i [] = pi := ⟨_, rfl⟩
      rw [hpi] at hcl HS
      rw [HX.out.1] at HS
      have HLT := Aside0.mk hlt
      clear hpi
      by_cases hm : 20001 < pi.length
      · have hm' : (20001 : Int) < (pi.length : Int) := by omega
        have HS2 := Aside0.mk (show sumT (l2.take (i + 1)) = X + 20001 by rw [HS.out]; omega)
        clear HS
        go_wp2_with fail
        go_roundw
        case rel => exact ⟨i + 1, HLT.out, by omega, by simp, by rw [HS2.out]; simp; omega, trivial⟩
        case measure => have := HLT.out; simp [intOf] <;> omega
      · have hm' : ¬ (20001 : Int) < (pi.length : Int) := by omega
        have HS2 := Aside0.mk (show sumT (l2.take (i + 1)) = X + pi.length by rw [HS.out]; omega)
        have hpb : pi.length ≤ 20001 := by omega
        clear HS
        go_wp2_with fail
        go_roundw
        case rel => exact ⟨i + 1, HLT.out, by omega, by simp, by rw [HS2.out]; simp; omega, trivial⟩
        case measure => have := HLT.out; simp [intOf] <;> omega
  case rest =>
    obtain ⟨W2, N, i0, rfl, rfl, rfl, hN⟩ := hcut
    have HN := Aside0.mk hN.out
    clear hN
    by_cases q1 : 5000 < la.length
    case pos =>
      have d10 : decide (5000 < (la.length : Int)) = true := decide_eq_true (by omega)
      have d11 : decide (5000 < la.length) = true := decide_eq_true (by omega)
      clear q1
      go_wp2_with fail
      refine (tiklaw26_first.calls true _ rfl).mono ?_
      rintro en w3 ⟨rfl, hbw3⟩
      have HW3 := Aside0.mk (below_step HN.out.1 hbw3)
      clear hbw3
      go_wp2_with fail
      go_ret
      exact ⟨rfl, HW3.out⟩
    have d10 : decide (5000 < (la.length : Int)) = false := decide_eq_false (by omega)
    have d11 : decide (5000 < la.length) = false := decide_eq_false (by omega)
    have HQ1 := Aside0.mk (show la.length ≤ 5000 by omega)
    clear q1
    by_cases q2 : 100 < l2.length
    case pos =>
      have d20 : decide (100 < (l2.length : Int)) = true := decide_eq_true (by omega)
      have d21 : decide (100 < l2.length) = true := decide_eq_true (by omega)
      clear q2
      go_wp2_with fail
      refine (tiklaw26_first.calls true _ rfl).mono ?_
      rintro en w3 ⟨rfl, hbw3⟩
      have HW3 := Aside0.mk (below_step HN.out.1 hbw3)
      clear hbw3
      go_wp2_with fail
      go_ret
      exact ⟨rfl, HW3.out⟩
    have d20 : decide (100 < (l2.length : Int)) = false := decide_eq_false (by omega)
    have d21 : decide (100 < l2.length) = false := decide_eq_false (by omega)
    have HQ2 := Aside0.mk (show l2.length ≤ 100 by omega)
    clear q2
    by_cases q3 : 20000 < N
    case pos =>
      have d30 : decide (20000 < (N : Int)) = true := decide_eq_true (by omega)
      have d31 : decide (20000 < N) = true := decide_eq_true (by omega)
      clear q3
      go_wp2_with fail
      refine (tiklaw26_first.calls true _ rfl).mono ?_
      rintro en w3 ⟨rfl, hbw3⟩
      have HW3 := Aside0.mk (below_step HN.out.1 hbw3)
      clear hbw3
      go_wp2_with fail
      go_ret
      exact ⟨rfl, HW3.out⟩
    have d30 : decide (20000 < (N : Int)) = false := decide_eq_false (by omega)
    have d31 : decide (20000 < N) = false := decide_eq_false (by omega)
    have HEACH : Aside0 (∀ i, i < l2.length → (l2.getD i []).length ≤ 20000) := ⟨fun i hi => by
      have h1 := sumT_each l2 i hi
      have h2 := HN.out.2 HQ2.out
      omega⟩
    clear q3
    obtain ⟨r, ec, hF, hT, hr20, _, hrb⟩ := doc_cut H0.out.1 H0.out.2 HQ1.out HA.out.2.2
    have HCF := Aside0.mk (And.intro hF (And.intro hT (And.intro hr20 hrb)))
    clear hF hT hr20 hrb
    go_wp2_with fail
    refine (frag_Cut.calls a0 A1 c1 la r ec _ (Kd.C_below HA.out.1 HN.out.1) HA.out.2.1 HCF.out.1).mono ?_
    rintro en w3 ⟨v3, rfl, ⟨P3, k3, rfl, hk3, hF3⟩, hb3⟩
    have HL3 := Aside0.mk (Kd.F_now hF3)
    have HW3 := Aside0.mk (below_step HN.out.1 hb3)
    clear hF3 hb3 hk3
    clear d10 d11 d20 d21 d30 d31
    go_wp2_with fail
    refine (tikref25_Cut.calls 60 a0 A1 c1 la r ec _ (Kd.C_below HA.out.1 HW3.out) HA.out.2.1 HCF.out.2.1).mono ?_
    rintro en w4 ⟨v4, rfl, hS4, hb4⟩
    obtain ⟨P4, k4, rfl, hk4, hC4⟩ := Kd.S_reads hS4
    have HM4 := Aside0.mk hC4
    have HL4 := Aside0.mk (Kd.C_below HL3.out hb4)
    have HW4 := Aside0.mk (below_step HW3.out hb4)
    clear hS4 hb4 hk4 hC4
    have hbd : ∀ W : World, (Instr.build 56 #[]).run Try.prog W = .ok (.agg #[.int .u64 0, .int .i64 0, .slice none 0 0, .slice none 0 0, .bool false]) W := fun W => run_build (P := Try.prog) W 56 #[] _ (by kernel_rfl)
    go_wp2_with fail
    refine (newGather_any (own := fun k => w4.heap.size ≤ k) (Nat.le_refl _)).mono ?_
    rintro en w5 ⟨rfl, hG5, hb5, hs5⟩
    have hg5 : GatAt w5 (fun k => k = w4.heap.size) w4.heap.size 0 0 [] := hG5.mono (fun k hk ho => by omega)
    obtain ⟨w6, hw6⟩ : ∃ w6, w5.alloc (refO 0 0 (.slice none 0 0) (.slice none 0 0) false) = w6 := ⟨_, rfl⟩
    have hb6 : Below w5.heap.size w5 w6 := by rw [← hw6]; exact below_alloc (Below.refl _ _) _
    have hp6 : w6.heap[w5.heap.size]? = some (refO 0 0 (.slice none 0 0) (.slice none 0 0) false) := by rw [← hw6]; exact alloc_new _ _
    have hs6 : w6.heap.size = w5.heap.size + 1 := by rw [← hw6]; simp
    have HDU : Aside0 (Duo w4 w6 w4.heap.size w5.heap.size 0 0 false [] (fun k => k = w4.heap.size) (fun k => k = w5.heap.size)) := ⟨⟨.inl ⟨rfl, rfl, rfl, rfl⟩, hg5.below hb6, ⟨rfl, .inl ⟨rfl, rfl, rfl, rfl, hp6⟩⟩, fun k hk => by omega, fun k hk => by omega, fun k hk h2 => by omega, below_step hb5 hb6⟩⟩
    have HW6 := Aside0.mk hw6
    clear hG5 hb5 hs5 hg5 hb6 hp6 hs6 hw6
    go_wp2_with fail
    rw [HW6.out]
    clear hbd
    go_loopw [15, 85, 86, 87, 88, 89, 90, 91, 92, 93, 94, 95, 96, 97, 98, 99, 100] (fun v15 v85 v86 v87 v88 v89 v90 v91 v92 v93 v94 v95 v96 v97 v98 v99 v100 wr => ∃ i : Nat, i ≤ r.length ∧ v15 = .int .i64 (i : Int) ∧ Below w6.heap.size w6 wr)
      (fun v15 v85 v86 v87 v88 v89 v90 v91 v92 v93 v94 v95 v96 v97 v98 v99 v100 _ => r.length - (intOf v15).toNat)
    case atStart => exact ⟨0, Nat.zero_le _, rfl, Below.refl _ _⟩
    case round =>
      obtain ⟨i, hi, rfl, hB⟩ := hrel
      have HBr := Aside0.mk hB
      have HI := Aside0.mk hi
      clear hB hi
      by_cases hlt : i < r.length
      · obtain ⟨ad3, eP3, _⟩ := HL4.out.2.2 (by omega)
        obtain ⟨ad4, eP4, _⟩ := HM4.out.2.2 (by omega)
        subst eP3
        subst eP4
        have HBW := Aside0.mk (HDU.out.bel.trans (HBr.out.mono HDU.out.bel.size))
        obtain ⟨Ai, ci, hcl, hci, hCi⟩ := rows_getN (Kd.C_below HL4.out HBW.out) i hlt
        obtain ⟨Aj, cj, hcm, hcj, hCj⟩ := rows_getN (Kd.C_below HM4.out HBW.out) i hlt
        obtain ⟨pi, hpi⟩ : ∃ pi, r.getD i [] = pi := ⟨_, rfl⟩
        rw [hpi] at hcl hci hCi hcm hcj hCj
        have HCI := Aside0.mk (And.intro hci (And.intro hCi (And.intro hcj hCj)))
        have HCL := Aside0.mk (And.intro hcl hcm)
        have HLT := Aside0.mk hlt
        have hib : i < 100 := by have := HCF.out.2.2.1; omega
        clear hci hCi hcj hCj hpi hcl hcm
        go_wp2_with fail
        refine start_ (n := 10) (S := fun w' => w'.cell? (ad3.add i) = some (.slice Ai pi.length ci) ∧ w'.cell? (ad4.add i) = some (.slice Aj pi.length cj)) (ds := []) #[false, false, false, false, false, false, false, false, false, false] (by kernel_rfl) rfl rfl ⟨HCL.out.1, HCL.out.2⟩ (fun hHeld => ?_)
        refine pure_ (i := 0) (N := some 91) (v := ?_) (a' := ?_) #[true, false, false, false, false, false, false, false, false, false] rfl rfl (by kernel_rfl) (fun _ _ _ h => h) (Or.inl ⟨by rfl, ?_⟩) ?_ ?_
        rotate_left
        · intro w'
          go_simp
          with_reducible rfl
        rotate_left
        · simp only [Act.put, List.setIfInBounds_toArray, List.set_cons_zero, List.set_cons_succ, i64_w, i32_w]
          rfl
        refine pure_ (i := 1) (N := some 92) (v := ?_) (a' := ?_) #[true, true, false, false, false, false, false, false, false, false] rfl rfl (by kernel_rfl) (fun _ _ _ h => h) (Or.inl ⟨by rfl, ?_⟩) ?_ ?_
        rotate_left
        · intro w'
          go_simp
          with_reducible rfl
        rotate_left
        · simp only [Act.put, List.setIfInBounds_toArray, List.set_cons_zero, List.set_cons_succ, i64_w, i32_w]
          rfl
        refine pure_ (i := 2) (N := some 93) (v := ?_) (a' := ?_) #[true, true, true, false, false, false, false, false, false, false] rfl rfl (by kernel_rfl) (fun _ _ _ h => h) (Or.inl ⟨by rfl, ?_⟩) ?_ ?_
        rotate_left
        · intro w'
          go_simp
          with_reducible rfl
        rotate_left
        · simp only [Act.put, List.setIfInBounds_toArray, List.set_cons_zero, List.set_cons_succ, i64_w, i32_w]
          rfl
        refine pure_ (i := 4) (N := some 95) (v := ?_) (a' := ?_) #[true, true, true, false, true, false, false, false, false, false] rfl rfl (by kernel_rfl) (fun _ _ _ h => h) (Or.inl ⟨by rfl, ?_⟩) ?_ ?_
        rotate_left
        · intro w'
          go_simp
          with_reducible rfl
        rotate_left
        · simp only [Act.put, List.setIfInBounds_toArray, List.set_cons_zero, List.set_cons_succ, i64_w, i32_w]
          rfl
        refine pure_ (i := 5) (N := some 96) (v := ?_) (a' := ?_) #[true, true, true, false, true, true, false, false, false, false] rfl rfl (by kernel_rfl) (fun _ _ _ h => h) (Or.inl ⟨by rfl, ?_⟩) ?_ ?_
        rotate_left
        · intro w'
          go_simp
          with_reducible rfl
        rotate_left
        · simp only [Act.put, List.setIfInBounds_toArray, List.set_cons_zero, List.set_cons_succ, i64_w, i32_w]
          rfl
        refine pure_ (i := 6) (N := some 97) (v := ?_) (a' := ?_) #[true, true, true, false, true, true, true, false, false, false] rfl rfl (by kernel_rfl) (fun _ _ _ h => h) (Or.inl ⟨by rfl, ?_⟩) ?_ ?_
        rotate_left
        · intro w'
          go_simp
          with_reducible rfl
        rotate_left
        · simp only [Act.put, List.setIfInBounds_toArray, List.set_cons_zero, List.set_cons_succ, i64_w, i32_w]
          rfl
        refine take_ (i := 3) (N := some 94) (v := ?_) (a' := ?_) #[true, true, true, true, true, true, true, false, false, false] rfl rfl (by kernel_rfl) (fun _ _ _ h => h) (Or.inl ⟨by rfl, ?_⟩) hHeld ?_ ?_
        rotate_left
        · rintro w' ⟨s0, s1⟩
          go_simp
          with_reducible rfl
        rotate_left
        · simp only [Act.put, List.setIfInBounds_toArray, List.set_cons_zero, List.set_cons_succ, i64_w, i32_w]
          rfl
        refine take_ (i := 7) (N := some 98) (v := ?_) (a' := ?_) #[true, true, true, true, true, true, true, true, false, false] rfl rfl (by kernel_rfl) (fun _ _ _ h => h) (Or.inl ⟨by rfl, ?_⟩) hHeld ?_ ?_
        rotate_left
        · rintro w' ⟨s0, s1⟩
          go_simp
          with_reducible rfl
        rotate_left
        · simp only [Act.put, List.setIfInBounds_toArray, List.set_cons_zero, List.set_cons_succ, i64_w, i32_w]
          rfl
        refine one_ (i := 8) (N := some 99) #[true, true, true, true, true, true, true, true, true, false] rfl rfl (by kernel_rfl) (by decide) (fun K hK => ?_)
        refine goes_ Try.func16 (by kernel_rfl) rfl #[.slice Ai pi.length ci, .slice Aj pi.length cj] (by rfl) rfl rfl (by (try simp only [List.map_toArray, List.map_cons, List.map_nil]); first | done | rfl) ?_
        refine (tikref_Bytes.calls Ai ci pi Aj cj pi true _ (Kd.C_drew HCI.out.2.1) HCI.out.1 (Kd.C_drew HCI.out.2.2.2) HCI.out.2.2.1 (bytes_eq pi)).mono ?_
        rintro e w7 ⟨rfl, ⟨nd, rfl⟩⟩
        refine ⟨_, rfl, ?_⟩
        refine hK.out _ _ ⟨HCL.out.1, HCL.out.2⟩ (fun hHeld => ?_)
        clear hK K
        refine norm_ (a' := ?_) ?_ ?_
        rotate_left
        · show Act.put _ (some 99) _ = _
          simp only [Act.put, List.setIfInBounds_toArray, List.set_cons_zero, List.set_cons_succ, i64_w, i32_w]
          rfl
        refine pure_ (i := 9) (N := some 100) (v := ?_) (a' := ?_) #[true, true, true, true, true, true, true, true, true, true] rfl rfl (by kernel_rfl) (fun _ _ _ h => h) (Or.inl ⟨by rfl, ?_⟩) ?_ ?_
        rotate_left
        · intro w'
          go_simp
          with_reducible rfl
        rotate_left
        · simp only [Act.put, List.setIfInBounds_toArray, List.set_cons_zero, List.set_cons_succ, i64_w, i32_w]
          rfl
        refine done_ (by kernel_rfl) ?_
        generalize hW_W8 : (World.drewN _ nd) = W8
        have HB8 : Aside0 (Below w6.heap.size w6 W8) := ⟨by rw [← hW_W8]; exact pw_below_drewN (below_drew1 HBr.out) _⟩
        clear hW_W8
        go_wp2_with fail
        go_roundw
        case rel => exact ⟨i + 1, HLT.out, by simp, HB8.out⟩
        case measure => have := HLT.out; simp [intOf] <;> omega
      · have HDR := Aside0.mk (HDU.out.below HBr.out)
        clear HI
        go_wp2_with fail
        clear hlt
        go_loopw [16, 17, 18, 19, 20, 21, 22, 101, 102, 103, 104, 105, 106, 107, 108, 109, 110, 111, 112, 113, 114, 115, 116, 117, 118, 119, 120, 121, 122, 123, 124, 125, 126, 127, 128, 129, 130, 131, 132, 133, 134, 135, 136, 137, 138, 139, 140, 141, 142, 143, 144, 145, 146, 147, 148, 149, 150, 151, 152, 153, 154, 155, 156] (fun v16 v17 v18 v19 v20 v21 v22 v101 v102 v103 v104 v105 v106 v107 v108 v109 v110 v111 v112 v113 v114 v115 v116 v117 v118 v119 v120 v121 v122 v123 v124 v125 v126 v127 v128 v129 v130 v131 v132 v133 v134 v135 v136 v137 v138 v139 v140 v141 v142 v143 v144 v145 v146 v147 v148 v149 v150 v151 v152 v153 v154 v155 v156 wx => ∃ (i : Nat) (id n : Int) (told : Bool) (ps : List (List Int)) (O1 O2 : Nat → Prop), i ≤ l2.length ∧ v16 = .int .i64 (i : Int) ∧ Duo w4 wx w4.heap.size w5.heap.size id n told ps O1 O2)
          (fun v16 v17 v18 v19 v20 v21 v22 v101 v102 v103 v104 v105 v106 v107 v108 v109 v110 v111 v112 v113 v114 v115 v116 v117 v118 v119 v120 v121 v122 v123 v124 v125 v126 v127 v128 v129 v130 v131 v132 v133 v134 v135 v136 v137 v138 v139 v140 v141 v142 v143 v144 v145 v146 v147 v148 v149 v150 v151 v152 v153 v154 v155 v156 _ => l2.length - (intOf v16).toNat)
        case atStart => exact ⟨0, _, _, _, _, _, _, Nat.zero_le _, rfl, HDR.out⟩
        case round =>
          obtain ⟨j, id, n, told, ps, O1, O2, hj, rfl, hD⟩ := hrel
          have HD := Aside0.mk hD
          have HJ := Aside0.mk hj
          clear hD hj
          by_cases hlt : j < l2.length
          case neg =>
            go_wp2_with fail
            refine (tiklaw26_first.calls true _ rfl).mono ?_
            rintro en w9 ⟨rfl, hb9⟩
            have HW9 := Aside0.mk (below_step (HW4.out.trans (HD.out.bel.mono HW4.out.size)) hb9)
            clear hb9
            go_wp2_with fail
            go_ret
            exact ⟨rfl, HW9.out⟩
          obtain ⟨ad2, eA2, _⟩ := HB.out.1.2.2 (by omega)
          subst eA2
          have HROW : Aside0 (∀ W, Below w.heap.size w W → ∃ Ai ci, W.cell? (ad2.add j) = some (.slice Ai (l2.getD j []).length ci) ∧ (l2.getD j []).length ≤ ci ∧ Kd.C (Kd.int .u8) W Ai (l2.getD j []).length (l2.getD j [])) := ⟨fun W hW => rows_getN (Kd.C_below HB.out.1 hW) j hlt⟩
          have HPB : Aside0 (∀ x ∈ l2.getD j [], 0 ≤ x ∧ x < 256) := ⟨HB.out.2.2 _ (by rw [List.getD_eq_getElem?_getD, List.getElem?_eq_getElem hlt]; exact List.getElem_mem hlt)⟩
          have HPL := Aside0.mk (HEACH.out j hlt)
          obtain ⟨pi, hpi⟩ : ∃ pi, l2.getD j [] = pi := ⟨_, rfl⟩
          rw [hpi] at HROW HPB HPL
          obtain ⟨id', n', ps', M, X, E, hP⟩ : ∃ a b c d e f, putV id n ps pi = ((a, b, c), (d, e, f)) := ⟨_, _, _, _, _, _, rfl⟩
          obtain ⟨told', hR, hI⟩ := put_doc HD.out.inv HPB.out
          rw [hP] at hR hI
          have HPV := Aside0.mk (And.intro hP (And.intro hR hI))
          have HLT := Aside0.mk hlt
          have HBx := Aside0.mk (HW4.out.trans (HD.out.bel.mono HW4.out.size))
          have hj100 : j < 100 := by have := HQ2.out; omega
          obtain ⟨Ai, ci, hcl, hci, hCi⟩ := HROW.out _ HBx.out
          have HCI := Aside0.mk (And.intro hci hCi)
          clear hP hR hI hpi hci hCi
          go_wp2_with fail
          refine (put_any HD.out.code (fun k hk => .inr hk) HCI.out.2 HCI.out.1 (by have := HPL.out; omega) HPB.out).mono ?_
          rintro en w7 ⟨hG7, hm7, v7, rfl, hR7⟩
          rw [HPV.out.1] at hG7 hR7 ⊢
          obtain ⟨A7, c7, rfl, hc7, _⟩ := Kd.R_reads hR7
          have HG7 := Aside0.mk (And.intro hG7 (And.intro hm7 (And.intro hR7 hc7)))
          clear hG7 hm7 hR7 hc7 hcl HCI
          obtain ⟨Ai2, ci2, hcl, hci, hCi⟩ := HROW.out w7 (HW4.out.trans ((HD.out.bel5 HG7.out.2.1).mono HW4.out.size))
          have HCI := Aside0.mk (And.intro hci hCi)
          clear hci hCi
          go_wp2_with fail
          refine (refPut_any (HD.out.doc HG7.out.2.1) (fun k hk => .inr hk) HCI.out.2 HCI.out.1 (by have := HPL.out; omega) HPB.out).mono ?_
          rintro en w8 ⟨hG8, hm8, v8, rfl, hR8⟩
          rw [HPV.out.2.1] at hG8 hR8 ⊢
          obtain ⟨A8, c8, rfl, hc8, hC8⟩ := Kd.R_reads hR8
          have HD8 := Aside0.mk (HD.out.next HG7.out.2.1 HG7.out.1 hm8 hG8 HPV.out.2.2)
          have HC7 := Aside0.mk (HD.out.row HG7.out.2.1 hm8 HG7.out.2.2.1)
          have HC8 := Aside0.mk (And.intro hc8 hC8)
          clear hG8 hm8 hR8 hc8 hC8 hcl HCI
          go_wp2_with fail
          refine start_ (n := 30) (S := fun w' => w'.cell? ⟨w5.heap.size, 0, none⟩ = some (.int .u64 id')) (ds := []) #[false, false, false, false, false, false, false, false, false, false, false, false, false, false, false, false, false, false, false, false, false, false, false, false, false, false, false, false, false, false] (by kernel_rfl) rfl rfl (HD8.out.cell) (fun hHeld => ?_)
          refine pure_ (i := 0) (N := some 127) (v := ?_) (a' := ?_) #[true, false, false, false, false, false, false, false, false, false, false, false, false, false, false, false, false, false, false, false, false, false, false, false, false, false, false, false, false, false] rfl rfl (by kernel_rfl) (fun _ _ _ h => h) (Or.inl ⟨by rfl, ?_⟩) ?_ ?_
          rotate_left
          · intro w'
            go_simp
            with_reducible rfl
          rotate_left
          · simp only [Act.put, List.setIfInBounds_toArray, List.set_cons_zero, List.set_cons_succ, i64_w, i32_w]
            rfl
          refine pure_ (i := 1) (N := some 128) (v := ?_) (a' := ?_) #[true, true, false, false, false, false, false, false, false, false, false, false, false, false, false, false, false, false, false, false, false, false, false, false, false, false, false, false, false, false] rfl rfl (by kernel_rfl) (fun _ _ _ h => h) (Or.inl ⟨by rfl, ?_⟩) ?_ ?_
          rotate_left
          · intro w'
            go_simp
            with_reducible rfl
          rotate_left
          · simp only [Act.put, List.setIfInBounds_toArray, List.set_cons_zero, List.set_cons_succ, i64_w, i32_w]
            rfl
          refine one_ (i := 2) (N := some 129) #[true, true, true, false, false, false, false, false, false, false, false, false, false, false, false, false, false, false, false, false, false, false, false, false, false, false, false, false, false, false] rfl rfl (by kernel_rfl) (by decide) (fun K hK => ?_)
          refine goes_ Try.func16 (by kernel_rfl) rfl #[.slice A7 M.length c7, .slice A8 M.length c8] (by rfl) rfl rfl (by (try simp only [List.map_toArray, List.map_cons, List.map_nil]); first | done | rfl) ?_
          refine (tikref_Bytes.calls A7 c7 M A8 c8 M true _ (Kd.C_drew HC7.out) HG7.out.2.2.2 (Kd.C_drew HC8.out.2) HC8.out.1 (bytes_eq M)).mono ?_
          rintro e wq ⟨rfl, ⟨nd, rfl⟩⟩
          refine ⟨_, rfl, ?_⟩
          refine hK.out _ _ (HD8.out.cell) (fun hHeld => ?_)
          clear hK K
          refine norm_ (a' := ?_) ?_ ?_
          rotate_left
          · show Act.put _ (some 129) _ = _
            simp only [Act.put, List.setIfInBounds_toArray, List.set_cons_zero, List.set_cons_succ, i64_w, i32_w]
            rfl
          refine pure_ (i := 3) (N := some 130) (v := ?_) (a' := ?_) #[true, true, true, true, false, false, false, false, false, false, false, false, false, false, false, false, false, false, false, false, false, false, false, false, false, false, false, false, false, false] rfl rfl (by kernel_rfl) (fun _ _ _ h => h) (Or.inl ⟨by rfl, ?_⟩) ?_ ?_
          rotate_left
          · intro w'
            go_simp
            with_reducible rfl
          rotate_left
          · simp only [Act.put, List.setIfInBounds_toArray, List.set_cons_zero, List.set_cons_succ, i64_w, i32_w]
            rfl
          refine pure_ (i := 4) (N := some 131) (v := ?_) (a' := ?_) #[true, true, true, true, true, false, false, false, false, false, false, false, false, false, false, false, false, false, false, false, false, false, false, false, false, false, false, false, false, false] rfl rfl (by kernel_rfl) (fun _ _ _ h => h) (Or.inl ⟨by rfl, ?_⟩) ?_ ?_
          rotate_left
          · intro w'
            go_simp
            with_reducible rfl
          rotate_left
          · simp only [Act.put, List.setIfInBounds_toArray, List.set_cons_zero, List.set_cons_succ, i64_w, i32_w]
            rfl
          refine pure_ (i := 5) (N := some 132) (v := ?_) (a' := ?_) #[true, true, true, true, true, true, false, false, false, false, false, false, false, false, false, false, false, false, false, false, false, false, false, false, false, false, false, false, false, false] rfl rfl (by kernel_rfl) (fun _ _ _ h => h) (Or.inl ⟨by rfl, ?_⟩) ?_ ?_
          rotate_left
          · intro w'
            go_simp
            with_reducible rfl
          rotate_left
          · simp only [Act.put, List.setIfInBounds_toArray, List.set_cons_zero, List.set_cons_succ, i64_w, i32_w]
            rfl
          refine pure_ (i := 6) (N := some 133) (v := ?_) (a' := ?_) #[true, true, true, true, true, true, true, false, false, false, false, false, false, false, false, false, false, false, false, false, false, false, false, false, false, false, false, false, false, false] rfl rfl (by kernel_rfl) (fun _ _ _ h => h) (Or.inl ⟨by rfl, ?_⟩) ?_ ?_
          rotate_left
          · intro w'
            go_simp
            with_reducible rfl
          rotate_left
          · simp only [Act.put, List.setIfInBounds_toArray, List.set_cons_zero, List.set_cons_succ, i64_w, i32_w]
            rfl
          refine pure_ (i := 7) (N := some 134) (v := ?_) (a' := ?_) #[true, true, true, true, true, true, true, true, false, false, false, false, false, false, false, false, false, false, false, false, false, false, false, false, false, false, false, false, false, false] rfl rfl (by kernel_rfl) (fun _ _ _ h => h) (Or.inl ⟨by rfl, ?_⟩) ?_ ?_
          rotate_left
          · intro w'
            go_simp
            with_reducible rfl
          rotate_left
          · simp only [Act.put, List.setIfInBounds_toArray, List.set_cons_zero, List.set_cons_succ, i64_w, i32_w]
            rfl
          refine pure_ (i := 8) (N := some 135) (v := ?_) (a' := ?_) #[true, true, true, true, true, true, true, true, true, false, false, false, false, false, false, false, false, false, false, false, false, false, false, false, false, false, false, false, false, false] rfl rfl (by kernel_rfl) (fun _ _ _ h => h) (Or.inl ⟨by rfl, ?_⟩) ?_ ?_
          rotate_left
          · intro w'
            go_simp
            with_reducible rfl
          rotate_left
          · simp only [Act.put, List.setIfInBounds_toArray, List.set_cons_zero, List.set_cons_succ, i64_w, i32_w]
            rfl
          refine pure_ (i := 9) (N := some 136) (v := ?_) (a' := ?_) #[true, true, true, true, true, true, true, true, true, true, false, false, false, false, false, false, false, false, false, false, false, false, false, false, false, false, false, false, false, false] rfl rfl (by kernel_rfl) (fun _ _ _ h => h) (Or.inl ⟨by rfl, ?_⟩) ?_ ?_
          rotate_left
          · intro w'
            go_simp
            with_reducible rfl
          rotate_left
          · simp only [Act.put, List.setIfInBounds_toArray, List.set_cons_zero, List.set_cons_succ, i64_w, i32_w]
            rfl
          refine pure_ (i := 10) (N := some 137) (v := ?_) (a' := ?_) #[true, true, true, true, true, true, true, true, true, true, true, false, false, false, false, false, false, false, false, false, false, false, false, false, false, false, false, false, false, false] rfl rfl (by kernel_rfl) (fun _ _ _ h => h) (Or.inl ⟨by rfl, ?_⟩) ?_ ?_
          rotate_left
          · intro w'
            go_simp
            with_reducible rfl
          rotate_left
          · simp only [Act.put, List.setIfInBounds_toArray, List.set_cons_zero, List.set_cons_succ, i64_w, i32_w]
            rfl
          refine pure_ (i := 11) (N := some 138) (v := ?_) (a' := ?_) #[true, true, true, true, true, true, true, true, true, true, true, true, false, false, false, false, false, false, false, false, false, false, false, false, false, false, false, false, false, false] rfl rfl (by kernel_rfl) (fun _ _ _ h => h) (Or.inl ⟨by rfl, ?_⟩) ?_ ?_
          rotate_left
          · intro w'
            go_simp
            with_reducible rfl
          rotate_left
          · simp only [Act.put, List.setIfInBounds_toArray, List.set_cons_zero, List.set_cons_succ, i64_w, i32_w]
            rfl
          refine pure_ (i := 12) (N := some 139) (v := ?_) (a' := ?_) #[true, true, true, true, true, true, true, true, true, true, true, true, true, false, false, false, false, false, false, false, false, false, false, false, false, false, false, false, false, false] rfl rfl (by kernel_rfl) (fun _ _ _ h => h) (Or.inl ⟨by rfl, ?_⟩) ?_ ?_
          rotate_left
          · intro w'
            go_simp
            with_reducible rfl
          rotate_left
          · simp only [Act.put, List.setIfInBounds_toArray, List.set_cons_zero, List.set_cons_succ, i64_w, i32_w]
            rfl
          refine pure_ (i := 13) (N := some 140) (v := ?_) (a' := ?_) #[true, true, true, true, true, true, true, true, true, true, true, true, true, true, false, false, false, false, false, false, false, false, false, false, false, false, false, false, false, false] rfl rfl (by kernel_rfl) (fun _ _ _ h => h) (Or.inl ⟨by rfl, ?_⟩) ?_ ?_
          rotate_left
          · intro w'
            go_simp
            with_reducible rfl
          rotate_left
          · simp only [Act.put, List.setIfInBounds_toArray, List.set_cons_zero, List.set_cons_succ, i64_w, i32_w]
            rfl
          refine pure_ (i := 14) (N := some 141) (v := ?_) (a' := ?_) #[true, true, true, true, true, true, true, true, true, true, true, true, true, true, true, false, false, false, false, false, false, false, false, false, false, false, false, false, false, false] rfl rfl (by kernel_rfl) (fun _ _ _ h => h) (Or.inl ⟨by rfl, ?_⟩) ?_ ?_
          rotate_left
          · intro w'
            go_simp
            with_reducible rfl
          rotate_left
          · simp only [Act.put, List.setIfInBounds_toArray, List.set_cons_zero, List.set_cons_succ, i64_w, i32_w]
            rfl
          refine pure_ (i := 15) (N := some 142) (v := ?_) (a' := ?_) #[true, true, true, true, true, true, true, true, true, true, true, true, true, true, true, true, false, false, false, false, false, false, false, false, false, false, false, false, false, false] rfl rfl (by kernel_rfl) (fun _ _ _ h => h) (Or.inl ⟨by rfl, ?_⟩) ?_ ?_
          rotate_left
          · intro w'
            go_simp
            with_reducible rfl
          rotate_left
          · simp only [Act.put, List.setIfInBounds_toArray, List.set_cons_zero, List.set_cons_succ, i64_w, i32_w]
            rfl
          refine pure_ (i := 17) (N := some 144) (v := ?_) (a' := ?_) #[true, true, true, true, true, true, true, true, true, true, true, true, true, true, true, true, false, true, false, false, false, false, false, false, false, false, false, false, false, false] rfl rfl (by kernel_rfl) (fun _ _ _ h => h) (Or.inl ⟨by rfl, ?_⟩) ?_ ?_
          rotate_left
          · intro w'
            go_simp
            with_reducible rfl
          rotate_left
          · simp only [Act.put, List.setIfInBounds_toArray, List.set_cons_zero, List.set_cons_succ, i64_w, i32_w]
            rfl
          refine pure_ (i := 18) (N := some 145) (v := ?_) (a' := ?_) #[true, true, true, true, true, true, true, true, true, true, true, true, true, true, true, true, false, true, true, false, false, false, false, false, false, false, false, false, false, false] rfl rfl (by kernel_rfl) (fun _ _ _ h => h) (Or.inl ⟨by rfl, ?_⟩) ?_ ?_
          rotate_left
          · intro w'
            go_simp
            with_reducible rfl
          rotate_left
          · simp only [Act.put, List.setIfInBounds_toArray, List.set_cons_zero, List.set_cons_succ, i64_w, i32_w]
            rfl
          refine pure_ (i := 19) (N := some 146) (v := ?_) (a' := ?_) #[true, true, true, true, true, true, true, true, true, true, true, true, true, true, true, true, false, true, true, true, false, false, false, false, false, false, false, false, false, false] rfl rfl (by kernel_rfl) (fun _ _ _ h => h) (Or.inl ⟨by rfl, ?_⟩) ?_ ?_
          rotate_left
          · intro w'
            go_simp
            with_reducible rfl
          rotate_left
          · simp only [Act.put, List.setIfInBounds_toArray, List.set_cons_zero, List.set_cons_succ, i64_w, i32_w]
            rfl
          refine take_ (i := 20) (N := some 147) (v := ?_) (a' := ?_) #[true, true, true, true, true, true, true, true, true, true, true, true, true, true, true, true, false, true, true, true, true, false, false, false, false, false, false, false, false, false] rfl rfl (by kernel_rfl) (fun _ _ _ h => h) (Or.inl ⟨by rfl, ?_⟩) hHeld ?_ ?_
          rotate_left
          · intro w' s0
            go_simp
            with_reducible rfl
          rotate_left
          · simp only [Act.put, List.setIfInBounds_toArray, List.set_cons_zero, List.set_cons_succ, i64_w, i32_w]
            rfl
          refine one_ (i := 16) (N := some 143) #[true, true, true, true, true, true, true, true, true, true, true, true, true, true, true, true, true, true, true, true, true, false, false, false, false, false, false, false, false, false] rfl rfl (by kernel_rfl) (by decide) (fun K hK => ?_)
          refine goes_ Try.func30 (by kernel_rfl) rfl #[.pointer (some ⟨w4.heap.size, 0, none⟩)] (by rfl) rfl rfl (by (try simp only [List.map_toArray, List.map_cons, List.map_nil]); first | done | rfl) ?_
          refine (gid_any (HD8.out.below (pw_below_drewN (below_drew (Below.refl _ _)) nd)).gat).mono ?_
          rintro en wq ⟨rfl, rfl⟩
          refine ⟨_, rfl, ?_⟩
          refine hK.out _ _ (HD8.out.cell) (fun hHeld => ?_)
          clear hK K
          refine norm_ (a' := ?_) ?_ ?_
          rotate_left
          · show Act.put _ (some 143) _ = _
            simp only [Act.put, List.setIfInBounds_toArray, List.set_cons_zero, List.set_cons_succ, i64_w, i32_w]
            rfl
          refine pure_ (i := 21) (N := some 148) (v := ?_) (a' := ?_) #[true, true, true, true, true, true, true, true, true, true, true, true, true, true, true, true, true, true, true, true, true, true, false, false, false, false, false, false, false, false] rfl rfl (by kernel_rfl) (fun _ _ _ h => h) (Or.inl ⟨by rfl, ?_⟩) ?_ ?_
          rotate_left
          · intro w'
            go_simp
            with_reducible rfl
          rotate_left
          · simp only [Act.put, List.setIfInBounds_toArray, List.set_cons_zero, List.set_cons_succ, i64_w, i32_w]
            rfl
          refine pure_ (i := 22) (N := some 149) (v := ?_) (a' := ?_) #[true, true, true, true, true, true, true, true, true, true, true, true, true, true, true, true, true, true, true, true, true, true, true, false, false, false, false, false, false, false] rfl rfl (by kernel_rfl) (fun _ _ _ h => h) (Or.inl ⟨by rfl, ?_⟩) ?_ ?_
          rotate_left
          · intro w'
            go_simp
            with_reducible rfl
          rotate_left
          · simp only [Act.put, List.setIfInBounds_toArray, List.set_cons_zero, List.set_cons_succ, i64_w, i32_w]
            rfl
          refine pure_ (i := 23) (N := some 150) (v := ?_) (a' := ?_) #[true, true, true, true, true, true, true, true, true, true, true, true, true, true, true, true, true, true, true, true, true, true, true, true, false, false, false, false, false, false] rfl rfl (by kernel_rfl) (fun _ _ _ h => h) (Or.inl ⟨by rfl, ?_⟩) ?_ ?_
          rotate_left
          · intro w'
            go_simp
            with_reducible rfl
          rotate_left
          · simp only [Act.put, List.setIfInBounds_toArray, List.set_cons_zero, List.set_cons_succ, i64_w, i32_w]
            rfl
          refine pure_ (i := 24) (N := some 151) (v := ?_) (a' := ?_) #[true, true, true, true, true, true, true, true, true, true, true, true, true, true, true, true, true, true, true, true, true, true, true, true, true, false, false, false, false, false] rfl rfl (by kernel_rfl) (fun _ _ _ h => h) (Or.inl ⟨by rfl, ?_⟩) ?_ ?_
          rotate_left
          · intro w'
            go_simp
            with_reducible rfl
          rotate_left
          · simp only [Act.put, List.setIfInBounds_toArray, List.set_cons_zero, List.set_cons_succ, i64_w, i32_w]
            rfl
          refine pure_ (i := 26) (N := some 153) (v := ?_) (a' := ?_) #[true, true, true, true, true, true, true, true, true, true, true, true, true, true, true, true, true, true, true, true, true, true, true, true, true, false, true, false, false, false] rfl rfl (by kernel_rfl) (fun _ _ _ h => h) (Or.inl ⟨by rfl, ?_⟩) ?_ ?_
          rotate_left
          · intro w'
            go_simp
            with_reducible rfl
          rotate_left
          · simp only [Act.put, List.setIfInBounds_toArray, List.set_cons_zero, List.set_cons_succ, i64_w, i32_w]
            rfl
          refine one_ (i := 25) (N := some 152) #[true, true, true, true, true, true, true, true, true, true, true, true, true, true, true, true, true, true, true, true, true, true, true, true, true, true, true, false, false, false] rfl rfl (by kernel_rfl) (by decide) (fun K hK => ?_)
          refine goes_ Try.func31 (by kernel_rfl) rfl #[.pointer (some ⟨w4.heap.size, 0, none⟩)] (by rfl) rfl rfl (by (try simp only [List.map_toArray, List.map_cons, List.map_nil]); first | done | rfl) ?_
          refine (ghave_any (HD8.out.below (pw_below_drewN (below_drew (Below.refl _ _)) nd)).gat).mono ?_
          rintro en wq ⟨rfl, rfl⟩
          refine ⟨_, rfl, ?_⟩
          refine hK.out _ _ (HD8.out.cell) (fun hHeld => ?_)
          clear hK K
          refine norm_ (a' := ?_) ?_ ?_
          rotate_left
          · show Act.put _ (some 152) _ = _
            simp only [Act.put, List.setIfInBounds_toArray, List.set_cons_zero, List.set_cons_succ, i64_w, i32_w]
            rfl
          refine one_ (i := 27) (N := some 154) #[true, true, true, true, true, true, true, true, true, true, true, true, true, true, true, true, true, true, true, true, true, true, true, true, true, true, true, true, false, false] rfl rfl (by kernel_rfl) (by decide) (fun K hK => ?_)
          refine goes_ Try.func32 (by kernel_rfl) rfl #[.pointer (some ⟨w5.heap.size, 0, none⟩)] (by rfl) rfl rfl (by (try simp only [List.map_toArray, List.map_cons, List.map_nil]); first | done | rfl) ?_
          refine (refHave_any (HD8.out.below (pw_below_drewN (below_drew (Below.refl _ _)) nd)).ref).mono ?_
          rintro en wq ⟨rfl, rfl⟩
          refine ⟨_, rfl, ?_⟩
          refine hK.out _ _ (HD8.out.cell) (fun hHeld => ?_)
          clear hK K
          refine norm_ (a' := ?_) ?_ ?_
          rotate_left
          · show Act.put _ (some 154) _ = _
            simp only [Act.put, List.setIfInBounds_toArray, List.set_cons_zero, List.set_cons_succ, i64_w, i32_w]
            rfl
          refine pure_ (i := 28) (N := some 155) (v := ?_) (a' := ?_) #[true, true, true, true, true, true, true, true, true, true, true, true, true, true, true, true, true, true, true, true, true, true, true, true, true, true, true, true, true, false] rfl rfl (by kernel_rfl) (fun _ _ _ h => h) (Or.inl ⟨by rfl, ?_⟩) ?_ ?_
          rotate_left
          · intro w'
            go_simp
            with_reducible rfl
          rotate_left
          · simp only [Act.put, List.setIfInBounds_toArray, List.set_cons_zero, List.set_cons_succ, i64_w, i32_w]
            rfl
          refine pure_ (i := 29) (N := some 156) (v := ?_) (a' := ?_) #[true, true, true, true, true, true, true, true, true, true, true, true, true, true, true, true, true, true, true, true, true, true, true, true, true, true, true, true, true, true] rfl rfl (by kernel_rfl) (fun _ _ _ h => h) (Or.inl ⟨by rfl, ?_⟩) ?_ ?_
          rotate_left
          · intro w'
            go_simp
            with_reducible rfl
          rotate_left
          · simp only [Act.put, List.setIfInBounds_toArray, List.set_cons_zero, List.set_cons_succ, i64_w, i32_w]
            rfl
          refine done_ (by kernel_rfl) ?_
          generalize hW_W12 : (World.drewN _ nd) = W12
          have HD12 := Aside0.mk (HD8.out.below (w5 := W12) (by rw [← hW_W12]; exact pw_below_drewN (below_drew (Below.refl _ _)) _))
          clear hW_W12
          go_wp2_with fail
          go_roundw
          case rel => exact ⟨j + 1, _, _, _, _, _, _, HLT.out, by simp, HD12.out⟩
          case measure => have := HLT.out; simp [intOf] <;> omega
end Go.Proofs.Ytdklanenmihpdaa.Hand
namespace Go.Proofs.Ytdklanenmihpdaa.RowFragPuts
open Go.ChangeShapes Go.WideShapes Go.ChangeAt Go.RowKit
open Go.ChangeMaps (open_string shut_string)
open Go.Proofs.YtdklanenmihpdaaW.PrintWords Go.Proofs.Ytdklanenmihpdaa.Opens
open Go.Proofs.Ytdklanenmihpdaa.Hand
set_option linter.unusedVariables false
set_option linter.unusedSimpArgs false
theorem ownK : ownKnob Try.prog.godebug = none := by kernel_rfl
theorem laidOut : laidOutB Try.prog = true := by kernel_rfl
set_option maxRecDepth 100000 in
theorem lifted (os : Os) (started : os.Started) (H : Type) (enc : TypeId × Value → H) :
    ReturnsInHanded {} Try.checked os 6 .any (Rows.fragPutsSpec.pre6 enc Try.prog Try.f6 Rows.fragPutsRow.domain false) (Rows.fragPutsSpec.post enc Try.prog Try.f6 false true false false) := by
  refine returnsInHanded_of_change_sized (C := Try.checked) ownK started (by kernel_rfl) Try.func6
    (ChangeSpec.witness6 (enc := enc) (C := Try.checked) false ⟨#[], #[.int .u64 0, .slice none 0 0, .slice none 0 0], []⟩ 8 (by kernel_rfl) (by kernel_rfl) (by kernel_rfl) (by kernel_rfl)) ?_
  intro W base args ds gs before hval0 hW hcnd hsz0 _
  have hsz : (DataW.weightsEach Try.prog (Try.f6.params.toList ++ Rows.fragPutsSpec.plain.varTypes Try.prog) (ds ++ gs)).all (· ≤ reachBytes) = true := hsz0
  have hval : ∀ (j : Nat) t v, Try.f6.params[j]? = some t → args[j]? = some v → Value.okWide Try.prog W .any base t v := hval0
  have hW' := hW
  obtain ⟨p, q, hA0, hV, rfl, hfz, hnd⟩ := hW
  have hA : DataW.TrodAll enc Try.prog W 0 (fun _ => true) true Try.f6.params.toList args.toList ds p := hA0
  rw [Try.params6] at hA hval hsz
  obtain ⟨v0, vs0, d0, ds0, p0, q0, hargs, rfl, rfl, h0, r0⟩ := trodAll_cons hA
  obtain ⟨v1, vs1, d1, ds1, p1, q1, rfl, rfl, rfl, h1, r1⟩ := trodAll_cons r0
  obtain ⟨v2, vs2, d2, ds2, p2, q2, rfl, rfl, rfl, h2, r2⟩ := trodAll_cons r1
  obtain ⟨rfl, rfl, rfl⟩ := trodAll_nil r2
  obtain rfl : args = #[v0, v1, v2] := by cases args; simp_all
  obtain ⟨rfl, rfl⟩ := trodVars_none hV
  obtain ⟨a0, rfl, rfl, rfl, w0⟩ := open_int Try.underlying22 (hval 0 22 v0 rfl rfl) h0
  have k1 := h1
  have lt1 : ∀ x ∈ p1, x.block < W.heap.size := by obtain ⟨m, hm⟩ := k1; exact DataW.trod_lt m _ _ _ hm
  obtain ⟨l1, ⟨A1, c1, e1, hc1, hC1⟩, q1⟩ := open_arg (o_slice Try.underlying23 (by kernel_rfl) (o_int Try.underlying5)) h1
  obtain ⟨_, _, _, z1⟩ := okWide_slice Try.underlying23 (hval 1 23 v1 rfl rfl)
  obtain rfl : v1 = .slice A1 l1.length c1 := by subst z1; simpa [Value.cells] using e1
  have y1 := sized_any hsz (j := 1) (t := 23) rfl rfl Try.underlying23 h1
  have k2 := h2
  have lt2 : ∀ x ∈ p2, x.block < W.heap.size := by obtain ⟨m, hm⟩ := k2; exact DataW.trod_lt m _ _ _ hm
  obtain ⟨l2, ⟨A2, c2, e2, hc2, hC2⟩, q2⟩ := open_arg (o_slice Try.underlying48 (by kernel_rfl) (o_slice Try.underlying23 (by kernel_rfl) (o_int Try.underlying5))) h2
  obtain ⟨_, _, _, z2⟩ := okWide_slice Try.underlying48 (hval 2 48 v2 rfl rfl)
  obtain rfl : v2 = .slice A2 l2.length c2 := by subst z2; simpa [Value.cells] using e2
  have y2 := sized_any hsz (j := 2) (t := 48) rfl rfl Try.underlying48 h2
  clear hA0 hval0
  refine (puts_any (w := W) (by have := bounds_u64 w0; omega) (by have := bounds_u64 w0; omega) hC1 hc1 hC2 hc2 (fun x hx => by have := bounds_u8 (q1.2 x hx); omega) (fun p hp x hx => by have := bounds_u8 ((q2.2 p hp).2 x hx); omega)).mono fun e W' ⟨he, bel⟩ => ?_
  subst he
  exact ⟨_, rfl, _, _, _, [], _, [], hW', trodAll_mk1 (shut_bool Try.underlying4 _), (trodAll_cons_mk (shut_int Try.underlying22 w0) (trodAll_cons_mk (Below.trod laidOut (by kernel_rfl) (of_decide_eq_true (by kernel_rfl)) k1 bel lt1) (trodAll_cons_mk (Below.trod laidOut (by kernel_rfl) (of_decide_eq_true (by kernel_rfl)) k2 bel lt2) trodAll_mk0))), rfl, bel.frame _, fun h => by cases h⟩
theorem over : Rows.fragPutsRow.holds Try.pinned (OpenSpec.ofChange Rows.fragPutsSpec) :=
  OpenClaim.holds_of_wide 6 Try.f6 rfl rfl rfl rfl rfl rfl rfl ⟨rfl, rfl, rfl, rfl, rfl⟩ rfl rfl rfl rfl rfl (by kernel_rfl) Try.func6 (by kernel_rfl)
    (of_decide_eq_true (by kernel_rfl)) (by unfold Func.isWrapper; first | (rw [if_pos (by decide +kernel)]; kernel_rfl) | (rw [if_neg (by decide +kernel)]; exact ⟨rfl, rfl⟩))
    (fun os started H enc _ => lifted os started H enc)
#print axioms over
end Go.Proofs.Ytdklanenmihpdaa.RowFragPuts
namespace Go.Proofs.Ytdklanenmihpdaa
theorem fragPuts_holds : Rows.FragPutsSaid := RowFragPuts.over
end Go.Proofs.Ytdklanenmihpdaa
