/-
  WireBack: numbers one behind the other are read back, in their order. No program.
-/
import Derived.Test.YtabljieejnhefaaPureW6
import Derived.Test.YtabljieejnhefaaPSx1
namespace Go.Proofs.Ytabljieejnhefaa.Hand
open Go.RowKit Go.Proofs.YtabljieejnhefaaW.PrintWords Go.Proofs.YtabljieejnhefaaW.PrintLast Go.Proofs.YtabljieejnhefaaW.PrintMore Go.Proofs.Ytabljieejnhefaa.PA Go.Proofs.Ytabljieejnhefaa.PS

def catV (l : List Int) : List Int := l.flatMap (varL 9)
theorem catV_app (a b : List Int) : catV (a ++ b) = catV a ++ catV b := by simp [catV]
theorem catV_one (x : Int) : catV [x] = varL 9 x := by simp [catV]
theorem take_rd (l : List Int) (i : Nat) (h : i < l.length) : l.take (i + 1) = l.take i ++ [rd l (i : Int)] := by
  rw [List.take_add_one]
  unfold rd
  simp [h]
theorem catV_at (l : List Int) (i : Nat) (h : i < l.length) : catV l = catV (l.take i) ++ (varL 9 (rd l (i : Int)) ++ catV (l.drop (i + 1))) := by
  have e : l = l.take i ++ (rd l (i : Int) :: l.drop (i + 1)) := by rw [← rd_cons l i h]; simp
  have e2 : rd l (i : Int) :: l.drop (i + 1) = [rd l (i : Int)] ++ l.drop (i + 1) := rfl
  have e3 := congrArg catV e
  rw [e3, catV_app, e2, catV_app, catV_one]
def Words (l : List Int) : Prop := ∀ x ∈ l, 0 ≤ x ∧ x < 18446744073709551616
theorem rd_word {l : List Int} (h : Words l) (i : Nat) (hi : i < l.length) : 0 ≤ rd l (i : Int) ∧ rd l (i : Int) < 18446744073709551616 := by
  unfold rd
  rw [Int.toNat_natCast, List.getD_eq_getElem?_getD, List.getElem?_eq_getElem hi]
  exact h _ (List.getElem_mem hi)
theorem catV_len : ∀ (l : List Int), Words l → (catV l).length ≤ 10 * l.length
  | [], _ => by simp [catV]
  | x :: l, h => by
    have h1 := h x (by simp)
    obtain ⟨F, c, e, _, _, _, hl⟩ := varL_front 9 x h1.1 (by simp only [Int.reducePow, Int.reduceMul]; omega)
    have h2 := catV_len l (fun y hy => h y (by simp [hy]))
    have e2 : catV (x :: l) = varL 9 x ++ catV l := by simp [catV]
    rw [e2, e]
    simp
    omega
theorem num_back (x : Int) (P S : List Int) (h0 : 0 ≤ x) (h1 : x < 18446744073709551616) : numL (P ++ (varL 9 x ++ S)) 10 0 0 (P.length : Int) = .ok (x, (P.length : Int) + ((varL 9 x).length : Int)) := by
  have rb := read_back 9 0 x 0 P S rfl h0 (by simp only [Int.reducePow, Int.reduceMul]; omega) (by omega) (by simp) (by simpa using h1) (by omega)
  simpa using rb
theorem short_front : ∀ (W : List Int) (d i : Nat) (n : Int) (P : List Int), (∀ c ∈ W, 128 ≤ c) → i + W.length ≤ 9 → i + d = 10 → numL (P ++ W) d i n (P.length : Int) = .error 3
  | [], d, i, n, P, _, h1, h2 => by
    obtain ⟨d, rfl⟩ : ∃ m, d = m + 1 := ⟨d - 1, by simp at h1; omega⟩
    rw [numL, if_pos (by simp)]
  | c :: W, d, i, n, P, hW, h1, h2 => by
    obtain ⟨d, rfl⟩ : ∃ m, d = m + 1 := ⟨d - 1, by simp at h1; omega⟩
    have hc := hW c (by simp)
    have hr := rd_at P c W
    rw [numL_succ _ d i n _ c hr]
    have t1 : ¬ ((P.length : Int) = ((P ++ c :: W).length : Int)) := by simp; omega
    have hl : i + (W.length + 1) ≤ 9 := by simpa using h1
    refine (if_neg t1).trans ((if_neg (by omega)).trans ((if_neg (by omega)).trans ?_))
    have := short_front W d (i + 1) (vstep n c i) (P ++ [c]) (fun x hx => hW x (by simp [hx])) (by omega) (by omega)
    rw [show (P ++ [c]) ++ W = P ++ c :: W by simp, show ((P ++ [c]).length : Int) = (P.length : Int) + 1 by simp] at this
    exact this
theorem back_step (l : List Int) (a : Int) (h : Words l) (ha : 0 ≤ a) (k i : Nat) (hi : i < l.length) (hl : l.length ≤ 300) (hk : 10 ≤ k) :
    tiklaw2_WireBack.l0 (k + 1 + 1) l a (catV (l.take i)) (i : Int) = tiklaw2_WireBack.l0 k l a (catV (l.take (i + 1))) ((i + 1 : Nat) : Int) := by
  obtain ⟨x0, x1⟩ := rd_word h i hi
  have w : wrap64 ((i : Int) + 1) = ((i + 1 : Nat) : Int) := by rw [IntWalk.wrap64_in _ (by omega)]; omega
  have et : catV (l.take (i + 1)) = catV (l.take i) ++ varL 9 (rd l (i : Int)) := by rw [take_rd l i hi, catV_app, catV_one]
  have el : (catV (l.take i)).length ≤ 3000 := by
    have := catV_len (l.take i) (fun y hy => h y (List.mem_of_mem_take hy))
    rw [List.length_take] at this
    omega
  rw [tiklaw2_WireBack.l0, et]
  generalize rd l (i : Int) = x at *
  have v1 := wireVar_any (k + 1) (by omega) x x0 x1
  obtain ⟨F, c, eV, hF, c0, c1, hF9⟩ := varL_front 9 x x0 (by simp only [Int.reducePow, Int.reduceMul]; omega)
  have hV : (varL 9 x).length = F.length + 1 := by rw [eV]; simp
  have nb := num_back x [] [] x0 x1
  have g : wire_Get.f (varL 9 x) 0 = some (x, ((varL 9 x).length : Int), 0) := by
    refine congrArg some ((getV_in _ 0 (by omega)).trans ?_)
    simp only [List.nil_append, List.append_nil, List.length_nil, Int.natCast_zero, Int.zero_add] at nb
    exact (congrArg numOut nb).trans rfl
  have t1 : 0 ≤ Int.tmod a ((varL 9 x).length : Int) := Int.tmod_nonneg _ ha
  have t2 : Int.tmod a ((varL 9 x).length : Int) < ((varL 9 x).length : Int) := Int.tmod_lt_of_pos _ (by omega)
  obtain ⟨j, hj⟩ : ∃ j : Nat, Int.tmod a ((varL 9 x).length : Int) = (j : Int) := ⟨(Int.tmod a ((varL 9 x).length : Int)).toNat, by omega⟩
  rw [hj] at t1 t2
  have sf := short_front (F.take j) 10 0 0 [] (fun c hc => (hF c (List.mem_of_mem_take hc)).1) (by rw [List.length_take]; omega) (by omega)
  have g2 : wire_Get.f ((varL 9 x).take j) 0 = some (0, 0, 3) := by
    refine congrArg some ((getV_in _ 0 (by omega)).trans ?_)
    rw [eV, List.take_append_of_le_length (by omega)]
    exact (congrArg numOut sf).trans rfl
  simp only [v1, Option.bind_some, g]
  refine (if_pos (by omega)).trans ((if_pos (by omega)).trans ((if_neg (by omega)).trans ((if_neg (by omega)).trans ((if_pos trivial).trans ((if_pos trivial).trans ?_)))))
  rw [show ((0 : Int) != 0) = false from rfl, tiklaw2_WireBack.j2, hj, Int.toNat_natCast, g2, Option.bind_some, w]
  exact (if_neg (by simp)).trans ((if_neg (by omega)).trans ((if_pos (by omega)).trans ((if_pos (by omega)).trans ((if_pos rfl).trans (if_pos (by omega))))))
theorem back_l0 (l : List Int) (a : Int) (h : Words l) (ha : 0 ≤ a) (hl : l.length ≤ 300) (k : Nat) (hk : 10 ≤ k) : ∀ (m i : Nat), i + m = l.length →
    tiklaw2_WireBack.l0 (k + 2 * m) l a (catV (l.take i)) (i : Int) = tiklaw2_WireBack.l0 k l a (catV l) (l.length : Int)
  | 0, i, e => by rw [List.take_of_length_le (by omega), show i = l.length by omega]; rfl
  | m + 1, i, e => by
    rw [show k + 2 * (m + 1) = (k + 2 * m) + 1 + 1 by omega, back_step l a h ha _ i (by omega) hl (by omega)]
    exact back_l0 l a h ha hl k hk m (i + 1) (by omega)
theorem rdNum_ok (l : List Int) (at_ most n p : Int) (h : numL l 10 0 0 at_ = .ok (n, p)) (hm : n ≤ most) : rdNum l at_ 0 most = (n, p, 0) := by
  unfold rdNum upL
  rw [if_neg (by simp), h]
  simp only []
  rw [if_neg (by omega)]
theorem rdNum_end (l : List Int) (most : Int) : rdNum l (l.length : Int) 0 most = (0, (l.length : Int), 3) := by
  have h : numL l 10 0 0 (l.length : Int) = .error 3 := by rw [numL, if_pos rfl]
  unfold rdNum upL
  rw [if_neg (by simp), h]
theorem back_l1 (l : List Int) (h : Words l) (hl : l.length ≤ 300) (k : Nat) : ∀ (m i : Nat), i + m = l.length →
    tiklaw2_WireBack.l1 (k + m + 1) l (i : Int) (catV l) ((catV (l.take i)).length : Int) 0 = some true
  | 0, i, e => by
    have e1 : tiklaw2_first.f = some true := rfl
    have e2 : wire_Reader_End.f (catV l) ((catV l).length : Int) 0 = some (0, ((catV l).length : Int), 0) := by
      unfold wire_Reader_End.f
      rw [if_neg (by omega)]
    have e3 : wire_Reader_Num.f (catV l) ((catV l).length : Int) 0 5 = some (0, ((catV l).length : Int), 3) := congrArg some (rdNum_end _ _)
    rw [List.take_of_length_le (by omega), tiklaw2_WireBack.l1]
    refine (if_neg (by omega)).trans ?_
    simp only [e1, e2, e3, Option.bind_some, wire_Reader_Err.f]
    rfl
  | m + 1, i, e => by
    have hi : i < l.length := by omega
    obtain ⟨x0, x1⟩ := rd_word h i hi
    have w : wrap64 ((i : Int) + 1) = ((i + 1 : Nat) : Int) := by rw [IntWalk.wrap64_in _ (by omega)]; omega
    have nb := num_back (rd l (i : Int)) (catV (l.take i)) (catV (l.drop (i + 1))) x0 x1
    rw [← catV_at l i hi] at nb
    have et : catV (l.take (i + 1)) = catV (l.take i) ++ varL 9 (rd l (i : Int)) := by rw [take_rd l i hi, catV_app, catV_one]
    have ep : ((catV (l.take i)).length : Int) + ((varL 9 (rd l (i : Int))).length : Int) = ((catV (l.take (i + 1))).length : Int) := by rw [et]; simp
    rw [ep] at nb
    have e3 : wire_Reader_Num.f (catV l) ((catV (l.take i)).length : Int) 0 18446744073709551615 = some (rd l (i : Int), ((catV (l.take (i + 1))).length : Int), 0) := congrArg some (rdNum_ok _ _ _ _ _ nb (by omega))
    have ih := back_l1 l h hl k m (i + 1) (by omega)
    rw [show k + (m + 1) + 1 = (k + m + 1) + 1 by omega, tiklaw2_WireBack.l1]
    simp only [e3, Option.bind_some, w]
    exact (if_pos (by omega)).trans ((if_pos (by omega)).trans ((if_pos trivial).trans ih))
theorem back_any (l : List Int) (a : Int) (h : Words l) : tiklaw2_WireBack.f 2000 l a = some true := by
  have e1 : tiklaw2_first.f = some true := rfl
  have jt : ∀ k, tiklaw2_WireBack.j0 (k + 1) l a true = some true := fun k => rfl
  unfold tiklaw2_WireBack.f
  rw [e1, Option.bind_some]
  refine (if_pos rfl).trans ?_
  by_cases q1 : (l.length : Int) < 1
  · exact (if_pos q1).trans (jt 1999)
  refine (if_neg q1).trans ?_
  by_cases q2 : (l.length : Int) > 300
  · exact (if_pos q2).trans (jt 1999)
  refine (if_neg q2).trans ?_
  by_cases q3 : a < 0
  · rw [decide_eq_true q3]; exact jt 1999
  rw [decide_eq_false q3, show (2000 : Nat) = 1999 + 1 from rfl, tiklaw2_WireBack.j0]
  refine (if_neg (by simp)).trans ?_
  obtain ⟨m, hm⟩ : ∃ m, 1999 = (m + l.length + 12) + 2 * l.length := ⟨1999 - 3 * l.length - 12, by omega⟩
  have e := back_l0 l a h (by omega) (by omega) (m + l.length + 12) (by omega) l.length 0 (by omega)
  rw [hm]
  refine Eq.trans ?_ (e.trans ?_)
  · rfl
  rw [show m + l.length + 12 = ((m + 10) + l.length + 1) + 1 by omega, tiklaw2_WireBack.l0]
  refine (if_neg (by omega)).trans ?_
  have hc := catV_len l h
  have e2 : wire_NewReader.f (catV l) = some (catV l, 0, 0) := if_pos (by omega)
  rw [e2, Option.bind_some]
  refine (if_neg (by simp)).trans ?_
  have := back_l1 l h (by omega) (m + 10) l.length 0 (by omega)
  simpa [catV] using this
end Go.Proofs.Ytabljieejnhefaa.Hand
