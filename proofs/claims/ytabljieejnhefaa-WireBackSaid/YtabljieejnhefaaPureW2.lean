/-
  Plain facts: the document's Get tells what the program's tells. No program.
-/
import Derived.Test.YtabljieejnhefaaPureW1
namespace Go.Proofs.Ytabljieejnhefaa.Hand
open Go.RowKit Go.Proofs.YtabljieejnhefaaW.PrintWords Go.Proofs.YtabljieejnhefaaW.PrintLast Go.Proofs.YtabljieejnhefaaW.PrintMore Go.Proofs.Ytabljieejnhefaa.PA

theorem numL_succ (l : List Int) (d i : Nat) (n at_ c : Int) (hc : rd l at_ = c) : numL l (d + 1) i n at_ = if at_ = l.length then .error 3 else if (i = 9 ∧ c > 1) ∨ (c = 0 ∧ 0 < i) then .error 2 else
    if c < 128 then .ok (vstep n c i, at_ + 1) else numL l d (i + 1) (vstep n c i) (at_ + 1) := by subst hc; rfl
theorem ref_step (l : List Int) (k i : Nat) (at_ n c : Int) (hc : rd l (at_ + i) = c) (hc0 : 0 ≤ c) (hc1 : c < 256) (a1 : -9223372036854775808 ≤ at_ + (i : Int) ∧ at_ + (i : Int) ≤ 9223372036854775806) (hi : i ≤ 9) (h0 : 0 ≤ at_) (hin : at_ + (i : Int) < l.length) :
    tikref2_Get.l0 (k + 1 + 1) l at_ n (i : Int) = if i = 9 ∧ c > 1 then some (0, 0, 2) else if c < 128 then (if c = 0 ∧ 0 < i then some (0, 0, 2) else some (vstep n c i, at_ + i + 1, 0)) else tikref2_Get.l0 k l at_ (vstep n c i) ((i + 1 : Nat) : Int) := by
  have hv := vref_eq n c i hc0 hc1 hi
  rw [IntWalk.u64_in c (by omega)] at hv
  have h7 : wrap64 (7 * (i : Int)) = 7 * i := IntWalk.wrap64_in _ (by omega)
  have h8 : IntKind.u64.wrap (7 * (i : Int)) = 7 * i := IntWalk.u64_in _ (by omega)
  rw [h7, h8] at hv
  have t1 : (i : Int) < 10 := by omega
  have t2 : ¬ (at_ + (i : Int) ≥ l.length) := by omega
  have t3 : 0 ≤ at_ + (i : Int) := by omega
  have t4 : 0 ≤ 7 * (i : Int) := by omega
  have e1 : (i : Int) + 1 = ((i + 1 : Nat) : Int) := by omega
  have t5 : ((i : Int) = 9) ↔ (i = 9) := by omega
  have t6 : ((i : Int) > 0) ↔ (0 < i) := by omega
  have w1 : wrap64 (at_ + (i : Int)) = at_ + i := IntWalk.wrap64_in _ (by omega)
  have w2 : wrap64 (at_ + (i : Int) + 1) = at_ + i + 1 := IntWalk.wrap64_in _ (by omega)
  have w3 : wrap64 ((i : Int) + 1) = (i : Int) + 1 := IntWalk.wrap64_in _ (by omega)
  have w4 : IntKind.u64.wrap c = c := IntWalk.u64_in _ (by omega)
  rw [tikref2_Get.l0, w1, hc, w4, if_pos t1, if_neg t2, if_pos t3, if_pos hin]
  have j : ∀ b : Bool, tikref2_Get.j2 (k + 1) l at_ n i c b = if b = true then some (0, 0, 2) else if c < 128 then (if c = 0 ∧ 0 < i then some (0, 0, 2) else some (vstep n c i, at_ + i + 1, 0)) else tikref2_Get.l0 k l at_ (vstep n c i) ((i + 1 : Nat) : Int) := by
    intro b
    rw [tikref2_Get.j2, w1, w2, h7, h8, hv, w3, if_pos t4, e1]
    cases b
    · refine (if_neg (by simp)).trans (Eq.trans ?_ (if_neg (by simp)).symm)
      by_cases q : c < 128
      · refine (if_pos q).trans (Eq.trans ?_ (if_pos q).symm)
        by_cases hz : c = 0
        · refine (if_pos hz).trans ?_
          by_cases hi0 : 0 < i
          · exact (if_pos (t6.2 hi0)).trans (if_pos ⟨hz, hi0⟩).symm
          · exact (if_neg (fun h => hi0 (t6.1 h))).trans (if_neg (fun h => hi0 h.2)).symm
        · exact (if_neg hz).trans (if_neg (fun h => hz h.1)).symm
      · exact (if_neg q).trans (if_neg q).symm
    · exact (if_pos rfl).trans (if_pos rfl).symm
  by_cases h9 : i = 9
  · refine (if_pos (t5.2 h9)).trans ((j _).trans ?_)
    by_cases hc9 : c > 1
    · exact (if_pos (decide_eq_true hc9)).trans (if_pos ⟨h9, hc9⟩).symm
    · exact (if_neg (by simpa using hc9)).trans (if_neg (fun h => hc9 h.2)).symm
  · exact (if_neg (fun h => h9 (t5.1 h))).trans ((j _).trans ((if_neg (by simp)).trans (if_neg (fun h => h9 h.1)).symm))
theorem ref_end (l : List Int) (k i : Nat) (at_ n : Int) (a1 : -9223372036854775808 ≤ at_ + (i : Int) ∧ at_ + (i : Int) ≤ 9223372036854775806) (hi : i ≤ 9) (hin : at_ + (i : Int) = l.length) :
    tikref2_Get.l0 (k + 1) l at_ n (i : Int) = some (0, 0, 3) := by
  have t1 : (i : Int) < 10 := by omega
  have t2 : at_ + (i : Int) ≥ l.length := by omega
  have w1 : wrap64 (at_ + (i : Int)) = at_ + i := IntWalk.wrap64_in _ (by omega)
  rw [tikref2_Get.l0, w1, if_pos t1, if_pos t2]
theorem ref_over (l : List Int) (k : Nat) (at_ n : Int) : tikref2_Get.l0 (k + 1) l at_ n ((10 : Nat) : Int) = some (0, 0, 2) := by
  rw [tikref2_Get.l0, if_neg (by omega)]
/-- The document's Get tells what the program's tells. -/
theorem ref_l0 (l : List Int) (hl : l.length ≤ 9223372036854775000) (hb : Bytes255 l) (at_ : Int) (h0 : 0 ≤ at_) :
    ∀ (d i k : Nat) (n : Int), i + d = 10 → 2 * d < k → at_ + (i : Int) ≤ l.length → tikref2_Get.l0 k l at_ n (i : Int) = some (numOut (numL l d i n (at_ + i))) := by
  intro d
  induction d with
  | zero =>
    intro i k n hi hk _
    obtain ⟨k, rfl⟩ : ∃ m, k = m + 1 := ⟨k - 1, by omega⟩
    obtain rfl : i = 10 := by omega
    rw [ref_over]; rfl
  | succ d ih =>
    intro i k n hi hk h1
    obtain ⟨k, rfl⟩ : ∃ m, k = m + 1 + 1 := ⟨k - 2, by omega⟩
    have a1 : -9223372036854775808 ≤ at_ + (i : Int) ∧ at_ + (i : Int) ≤ 9223372036854775806 := by omega
    have hi9 : i ≤ 9 := by omega
    obtain ⟨c, hc⟩ : ∃ c, rd l (at_ + i) = c := ⟨_, rfl⟩
    have hb2 := rd_255 hb (at_ + i)
    rw [hc] at hb2
    rw [numL_succ l d i n (at_ + i) c hc]
    by_cases hp : at_ + (i : Int) = l.length
    · rw [ref_end l (k + 1) i at_ n a1 hi9 hp, if_pos hp]; rfl
    · have hin : at_ + (i : Int) < l.length := by clear hc; omega
      rw [ref_step l k i at_ n c hc hb2.1 hb2.2 a1 hi9 h0 hin, if_neg hp]
      have e : at_ + ((i + 1 : Nat) : Int) = at_ + i + 1 := by clear hc; omega
      have hih := ih (i + 1) k (vstep n c i) (by clear hc; omega) (by clear hc; omega) (by clear hc; omega)
      rw [e] at hih
      by_cases q1 : i = 9 ∧ c > 1
      · rw [if_pos q1, if_pos (.inl q1)]; rfl
      · rw [if_neg q1]
        by_cases q2 : c = 0 ∧ 0 < i
        · rw [if_pos (show c < 128 by have := q2.1; clear hc; omega), if_pos q2, if_pos (.inr q2)]; rfl
        · have q4 : ¬ ((i = 9 ∧ c > 1) ∨ (c = 0 ∧ 0 < i)) := fun h => h.elim q1 q2
          rw [if_neg q4]
          by_cases q3 : c < 128
          · refine (if_pos q3).trans ((if_neg q2).trans ?_)
            rw [if_pos q3]; rfl
          · refine (if_neg q3).trans (hih.trans ?_)
            rw [if_neg q3]
theorem refGet_any (l : List Int) (hl : l.length ≤ 9223372036854775000) (hb : Bytes255 l) (a : Int) (k : Nat) (hk : 30 ≤ k) : tikref2_Get.f k l a = some (getV l a) := by
  obtain ⟨k, rfl⟩ : ∃ m, k = m + 1 := ⟨k - 1, by omega⟩
  unfold tikref2_Get.f getV
  simp only [tikref2_Get.j0]
  by_cases h0 : a < 0
  · rw [if_pos h0, if_pos h0]; rfl
  · rw [if_neg h0, if_neg h0]
    by_cases h1 : (l.length : Int) < a
    · rw [if_pos h1, if_pos (decide_eq_true h1)]
    · rw [if_neg h1, if_neg (by simpa using h1)]
      have := ref_l0 l hl hb a (by omega) 10 0 k 0 (by omega) (by omega) (by omega)
      simpa using this
end Go.Proofs.Ytabljieejnhefaa.Hand
