/- Texts of this claim, put together. -/
import Derived.Test.YtabljieejnhefaaMWta
import Derived.Test.YtabljieejnhefaaRows
import Derived.WalkKit
import Derived.ProofKit
import Derived.OpenShut
import Derived.ShutString
import Derived.ChangeOld
import Derived.Below
import Derived.SizedLaws
set_option linter.unusedVariables false
set_option linter.unusedSimpArgs false
namespace Go.Proofs.Ytabljieejnhefaa.Hand
open Go.RowKit Go.Proofs.YtabljieejnhefaaW.PrintWords Go.Proofs.YtabljieejnhefaaW.PrintLast Go.Proofs.YtabljieejnhefaaW.PrintMore Go.Proofs.Ytabljieejnhefaa.PA Go.Proofs.Ytabljieejnhefaa.PK Go.Proofs.Ytabljieejnhefaa.PT
set_option linter.unusedSimpArgs false
set_option linter.unusedVariables false
theorem rd_at (P : List Int) (c : Int) (S : List Int) : rd (P ++ c :: S) (P.length : Int) = c := by
  unfold rd
  simp
theorem varL_front : ∀ (d : Nat) (a : Int), 0 ≤ a → a < 128 * 128 ^ d → ∃ F c, varL d a = F ++ [c] ∧ (∀ x ∈ F, 128 ≤ x ∧ x < 256) ∧ 0 ≤ c ∧ c < 128 ∧ F.length ≤ d
  | 0, a, h0, h1 => ⟨[], a % 256, rfl, by simp, by omega, by omega, by simp⟩
  | d + 1, a, h0, h1 => by
    by_cases q : a ≥ 128
    · obtain ⟨F, c, e, hF, c0, c1, hl⟩ := varL_front d (a / 128) (by omega) (by rw [Int.pow_succ] at h1; omega)
      refine ⟨(a % 128 + 128) :: F, c, ?_, ?_, c0, c1, by simp; omega⟩
      · show varL (d + 1) a = _
        rw [varL, if_pos q, e]; rfl
      · intro x hx
        rcases List.mem_cons.1 hx with rfl | hx
        · omega
        · exact hF x hx
    · exact ⟨[], a % 256, by rw [varL, if_neg q]; rfl, by simp, by omega, by omega, by simp⟩
theorem pow_le (i : Nat) (hi : i ≤ 9) : (1 : Int) ≤ 2 ^ (7 * i) := by
  have : i = 0 ∨ i = 1 ∨ i = 2 ∨ i = 3 ∨ i = 4 ∨ i = 5 ∨ i = 6 ∨ i = 7 ∨ i = 8 ∨ i = 9 := by omega
  rcases this with rfl | rfl | rfl | rfl | rfl | rfl | rfl | rfl | rfl | rfl <;> simp
theorem read_back : ∀ (d i : Nat) (a n : Int) (P S : List Int), i + d = 9 → 0 ≤ a → a < 128 * 128 ^ d → 0 ≤ n → n < 2 ^ (7 * i) → n + a * 2 ^ (7 * i) < 18446744073709551616 → (0 < i → 1 ≤ a) →
    numL (P ++ (varL d a ++ S)) (d + 1) i n (P.length : Int) = .ok (n + a * 2 ^ (7 * i), (P.length : Int) + ((varL d a).length : Int)) := by
  intro d
  induction d with
  | zero =>
    intro i a n P S hi h0 h1 hn0 hn hb hp
    obtain rfl : i = 9 := by omega
    have ha : a < 2 := by simp only [Nat.reduceMul, Int.reducePow] at hb hn; omega
    have e : a % 256 = a := by omega
    have hr := rd_at P (a % 256) S
    rw [e] at hr
    show numL (P ++ a % 256 :: S) 1 9 n _ = _
    rw [e, numL_succ _ 0 9 n _ a hr, if_neg (by simp; omega), if_neg (by omega), if_pos (by omega), vstep_eq n a 9 hn0 hn h0 (by omega) (by omega) (by omega)]
    rw [show a % 128 = a by omega]; rfl
  | succ d ih =>
    intro i a n P S hi h0 h1 hn0 hn hb hp
    have h2 : 1 ≤ (2 : Int) ^ (7 * i) := pow_le i (by omega)
    have e2 : (2 : Int) ^ (7 * (i + 1)) = 2 ^ (7 * i) * 128 := by rw [show 7 * (i + 1) = 7 * i + 7 by omega, Int.pow_add]; rfl
    by_cases q : a ≥ 128
    · have e1 : varL (d + 1) a = (a % 128 + 128) :: varL d (a / 128) := if_pos q
      have hr := rd_at P (a % 128 + 128) (varL d (a / 128) ++ S)
      have hv := vstep_eq n (a % 128 + 128) i hn0 hn (by omega) (by omega) (by omega) (by omega)
      rw [show (a % 128 + 128) % 128 = a % 128 by omega] at hv
      have hih := ih (i + 1) (a / 128) (n + a % 128 * 2 ^ (7 * i)) (P ++ [a % 128 + 128]) S (by omega) (by omega) (by rw [Int.pow_succ] at h1; omega)
      rw [e2] at hih
      have d1 : n + a % 128 * 2 ^ (7 * i) + a / 128 * (2 ^ (7 * i) * 128) = n + a * 2 ^ (7 * i) := by
        have : a * 2 ^ (7 * i) = (a % 128 + 128 * (a / 128)) * 2 ^ (7 * i) := by rw [Int.emod_add_mul_ediv]
        rw [this, Int.add_mul]
        have : a / 128 * (2 ^ (7 * i) * 128) = 128 * (a / 128) * 2 ^ (7 * i) := by ac_rfl
        rw [this]; omega
      have d2 : 0 ≤ a % 128 * 2 ^ (7 * i) := Int.mul_nonneg (by omega) (by omega)
      have d3 : a % 128 * 2 ^ (7 * i) ≤ 127 * 2 ^ (7 * i) := Int.mul_le_mul_of_nonneg_right (by omega) (by omega)
      rw [d1] at hih
      have hih := hih (by omega) (by omega) hb (by omega)
      have t1 : ¬ ((P.length : Int) = ((P ++ (varL (d + 1) a ++ S)).length : Int)) := by rw [e1]; simp; omega
      rw [e1] at t1 ⊢
      show numL (P ++ (a % 128 + 128) :: (varL d (a / 128) ++ S)) (d + 1 + 1) i n _ = _
      rw [numL_succ _ (d + 1) i n _ _ hr]
      refine (if_neg t1).trans ((if_neg (by omega)).trans ((if_neg (by omega)).trans ?_))
      rw [hv]
      have e3 : P ++ (a % 128 + 128) :: (varL d (a / 128) ++ S) = (P ++ [a % 128 + 128]) ++ (varL d (a / 128) ++ S) := by simp
      have e4 : (P.length : Int) + 1 = ((P ++ [a % 128 + 128]).length : Int) := by simp
      rw [e3, e4, hih, ← e4]
      simp only [List.length_cons]
      congr 2
      omega
    · have e1 : varL (d + 1) a = [a % 256] := if_neg q
      have e : a % 256 = a := by omega
      have hr := rd_at P a S
      rw [e1, e]
      show numL (P ++ a :: S) (d + 1 + 1) i n _ = _
      rw [numL_succ _ (d + 1) i n _ a hr]
      have t1 : ¬ ((P.length : Int) = ((P ++ a :: S).length : Int)) := by simp; omega
      refine (if_neg t1).trans ((if_neg (by omega)).trans ((if_pos (by omega)).trans ?_))
      rw [vstep_eq n a i hn0 hn h0 (by omega) (by omega) (by omega), show a % 128 = a by omega]; rfl
theorem num_back (x : Int) (P S : List Int) (h0 : 0 ≤ x) (h1 : x < 18446744073709551616) : numL (P ++ (varL 9 x ++ S)) 10 0 0 (P.length : Int) = .ok (x, (P.length : Int) + ((varL 9 x).length : Int)) := by
  have rb := read_back 9 0 x 0 P S rfl h0 (by simp only [Int.reducePow, Int.reduceMul]; omega) (by omega) (by simp) (by simpa using h1) (by omega)
  simpa using rb
theorem str_back (s : ByteArray) : strOfNums (bytesOf s) = s := by
  unfold strOfNums bytesOf
  rcases s with ⟨d⟩
  congr 1
  apply Array.ext'
  rw [List.toList_toArray, List.map_map]
  refine (List.map_congr_left (fun b _ => ?_)).trans (List.map_id _)
  simp
def oneT (s : ByteArray) : List Int := varL 9 (s.size : Int) ++ bytesOf s
def catT (l : List ByteArray) : List Int := l.flatMap oneT
theorem catT_app (a b : List ByteArray) : catT (a ++ b) = catT a ++ catT b := by simp [catT]
theorem catT_one (s : ByteArray) : catT [s] = oneT s := by simp [catT]
def sz : List ByteArray → Int
  | [] => 0
  | s :: l => mn (s.size : Int) 3001 + sz l
theorem mn_le (a b : Int) : mn a b ≤ b := by unfold mn; split <;> omega
theorem mn_nn (a : Nat) : 0 ≤ mn (a : Int) 3001 := by unfold mn; split <;> omega
theorem sz_nn : ∀ l, 0 ≤ sz l
  | [] => Int.le_refl _
  | s :: l => by have := sz_nn l; have := mn_nn s.size; unfold sz; omega
theorem sz_small : ∀ l, sz l ≤ 3000 → (∀ s ∈ l, s.size ≤ 3000) ∧ ((catT l).length : Int) ≤ sz l + 10 * l.length
  | [], _ => ⟨by simp, by simp [catT, sz]⟩
  | s :: l, h => by
    have h1 := sz_nn l
    have h2 := mn_nn s.size
    unfold sz at h
    obtain ⟨i1, i2⟩ := sz_small l (by omega)
    have h3 : (s.size : Int) ≤ 3000 ∧ mn (s.size : Int) 3001 = s.size := by
      have hm : mn (s.size : Int) 3001 ≤ 3000 := by omega
      unfold mn at hm ⊢
      split at hm <;> rename_i hc
      · omega
      · exact ⟨hm, if_neg hc⟩
    obtain ⟨F, c, e, _, _, _, hl⟩ := varL_front 9 (s.size : Int) (by omega) (by simp only [Int.reducePow, Int.reduceMul]; omega)
    refine ⟨fun x hx => ?_, ?_⟩
    · rcases List.mem_cons.1 hx with rfl | hx
      · omega
      · exact i1 x hx
    · have e2 : catT (s :: l) = oneT s ++ catT l := by simp [catT]
      rw [e2, oneT, e]
      unfold sz
      simp only [List.length_append, List.length_cons, List.length_nil, bytesOf_length]
      rw [h3.2]
      omega
theorem take_rdOf (l : List ByteArray) (i : Nat) (h : i < l.length) : l.take (i + 1) = l.take i ++ [rdOf ByteArray.empty l (i : Int)] := by
  rw [List.take_add_one]
  unfold rdOf
  simp [h]
theorem drop_rdOf (l : List ByteArray) (i : Nat) (h : i < l.length) : l.drop i = rdOf ByteArray.empty l (i : Int) :: l.drop (i + 1) := by
  rw [List.drop_eq_getElem_cons h]
  unfold rdOf
  simp [h]
theorem rdOf_mem (l : List ByteArray) (i : Nat) (h : i < l.length) : rdOf ByteArray.empty l (i : Int) ∈ l := by
  unfold rdOf
  rw [Int.toNat_natCast, List.getD_eq_getElem?_getD, List.getElem?_eq_getElem h]
  exact List.getElem_mem h
theorem catT_at (l : List ByteArray) (i : Nat) (h : i < l.length) : catT l = catT (l.take i) ++ (oneT (rdOf ByteArray.empty l (i : Int)) ++ catT (l.drop (i + 1))) := by
  have e : l = l.take i ++ (rdOf ByteArray.empty l (i : Int) :: l.drop (i + 1)) := by rw [← drop_rdOf l i h, List.take_append_drop]
  have e2 : rdOf ByteArray.empty l (i : Int) :: l.drop (i + 1) = [rdOf ByteArray.empty l (i : Int)] ++ l.drop (i + 1) := rfl
  have e3 := congrArg catT e
  rw [e3, catT_app, e2, catT_app, catT_one]
theorem texts_l0 (l : List ByteArray) (a : Int) (k : Nat) : ∀ (m i : Nat) (x : Int), i + m = l.length → l.length ≤ 60 → 0 ≤ x → x ≤ 3001 * (i : Int) → tiklaw2_WireTexts.l0 (k + m + 1) l a x (i : Int) = tiklaw2_WireTexts.j1 k l a (x + sz (l.drop i))
  | 0, i, x, e, hl, h0, h1 => by
    rw [tiklaw2_WireTexts.l0, if_neg (by omega), List.drop_of_length_le (by omega), show x + sz [] = x from Int.add_zero x]
  | m + 1, i, x, e, hl, h0, h1 => by
    have w : wrap64 ((i : Int) + 1) = ((i + 1 : Nat) : Int) := by rw [IntWalk.wrap64_in _ (by omega)]; omega
    rw [show k + (m + 1) + 1 = (k + m + 1) + 1 by omega, tiklaw2_WireTexts.l0, if_pos (by omega), if_pos (by omega), if_pos (by omega), drop_rdOf l i (by omega), w]
    generalize rdOf ByteArray.empty l (i : Int) = s
    have m0 := mn_nn s.size
    have m1 := mn_le (s.size : Int) 3001
    rw [IntWalk.wrap64_in _ (by omega), texts_l0 l a k m (i + 1) _ (by omega) hl (by omega) (by omega), sz, Int.add_assoc]
theorem texts_l0b (l : List ByteArray) (a : Int) (k : Nat) (hl : 60 < l.length) : ∀ (m i : Nat) (x : Int), i + m = 60 → ∃ y, tiklaw2_WireTexts.l0 (k + m + 1) l a x (i : Int) = tiklaw2_WireTexts.j1 k l a y
  | 0, i, x, e => ⟨x, by rw [tiklaw2_WireTexts.l0, if_pos (by omega), if_neg (by omega)]⟩
  | m + 1, i, x, e => by
    have w : wrap64 ((i : Int) + 1) = ((i + 1 : Nat) : Int) := by rw [IntWalk.wrap64_in _ (by omega)]; omega
    rw [show k + (m + 1) + 1 = (k + m + 1) + 1 by omega, tiklaw2_WireTexts.l0, if_pos (by omega), if_pos (by omega), if_pos (by omega), w]
    exact texts_l0b l a k hl m (i + 1) _ (by omega)
structure TextsOk (l : List ByteArray) (a : Int) : Prop where
  len : l.length ≤ 60
  size : ∀ s ∈ l, s.size ≤ 3000
  all : ∀ i, ((catT (l.take i)).length : Int) ≤ 3600
  a0 : 0 ≤ a
  a1 : a ≤ 4000
theorem catT_take (l : List ByteArray) (i : Nat) : (catT (l.take i)).length ≤ (catT l).length := by
  have e := congrArg (fun x => (catT x).length) (List.take_append_drop i l)
  simp only [catT_app, List.length_append] at e
  omega
theorem texts_l1 (l : List ByteArray) (a : Int) (h : TextsOk l a) (k : Nat) (hk : 10 ≤ k) : ∀ (m i : Nat), i + m = l.length →
    tiklaw2_WireTexts.l1 (k + m) l a (catT (l.take i)) (i : Int) = tiklaw2_WireTexts.l1 k l a (catT l) (l.length : Int)
  | 0, i, e => by rw [List.take_of_length_le (by omega), show i = l.length by omega]; rfl
  | m + 1, i, e => by
    have hl := h.len
    have w : wrap64 ((i : Int) + 1) = ((i + 1 : Nat) : Int) := by rw [IntWalk.wrap64_in _ (by omega)]; omega
    have hs := h.size _ (rdOf_mem l i (by omega))
    have ha := h.all i
    have et : catT (l.take (i + 1)) = catT (l.take i) ++ oneT (rdOf ByteArray.empty l (i : Int)) := by rw [take_rdOf l i (by omega), catT_app, catT_one]
    have ih := texts_l1 l a h k hk m (i + 1) (by omega)
    rw [← ih, et]
    rw [show k + (m + 1) = (k + m) + 1 by omega, tiklaw2_WireTexts.l1, if_pos (by omega), if_pos (by omega)]
    generalize rdOf ByteArray.empty l (i : Int) = s at *
    obtain ⟨F, c, e, _, _, _, hF⟩ := varL_front 9 (s.size : Int) (by omega) (by simp only [Int.reducePow, Int.reduceMul]; omega)
    have hV : (varL 9 (s.size : Int)).length = F.length + 1 := by rw [e]; simp
    rw [IntWalk.u64_in _ (by omega), wireVar_any (k + m) (by omega) (s.size : Int) (by omega) (by omega), Option.bind_some, if_pos (by omega), Option.bind_some, if_pos (by rw [List.length_append]; omega), w, List.append_assoc]
    rfl
theorem texts_l2 (l : List ByteArray) (a : Int) (h : TextsOk l a) (k : Nat) : ∀ (m i : Nat), i + m = l.length →
    tiklaw2_WireTexts.l2 (k + m + 1) l a (i : Int) (catT l) ((catT (l.take i)).length : Int) 0 = some true
  | 0, i, e => by
    have eE : kEnd.f (catT l) ((catT l).length : Int) 0 = some (if (0 : Int) = 0 ∧ ((catT l).length : Int) < (catT l).length then 4 else 0) := if_pos rfl
    have eL : kLeft.f (catT l) ((catT l).length : Int) 0 = some ((catT l).length - ((catT l).length : Int)) := by
      unfold kLeft.f wire_Reader_Left.f
      exact if_pos rfl
    rw [List.take_of_length_le (by omega), tiklaw2_WireTexts.l2, if_neg (by omega), show tiklaw2_first.f = some true from rfl, Option.bind_some, if_pos rfl, eE, if_neg (by omega), Option.bind_some, if_pos rfl, eL, Option.bind_some, Int.sub_self]
    rfl
  | m + 1, i, e => by
    have hl := h.len
    have a0 := h.a0
    have a1 := h.a1
    have w : wrap64 ((i : Int) + 1) = ((i + 1 : Nat) : Int) := by rw [IntWalk.wrap64_in _ (by omega)]; omega
    have hs := h.size _ (rdOf_mem l i (by omega))
    have ha := h.all l.length
    rw [List.take_of_length_le (Nat.le_refl _)] at ha
    have et : catT (l.take (i + 1)) = catT (l.take i) ++ oneT (rdOf ByteArray.empty l (i : Int)) := by rw [take_rdOf l i (by omega), catT_app, catT_one]
    have ea := catT_at l i (by omega)
    have ih := texts_l2 l a h k m (i + 1) (by omega)
    rw [et] at ih
    rw [show k + (m + 1) + 1 = (k + m + 1) + 1 by omega, tiklaw2_WireTexts.l2, if_pos (by omega)]
    have eL : ∀ e, kLeft.f (catT l) ((catT (l.take i)).length : Int) e = some ((catT l).length - ((catT (l.take i)).length : Int)) := by
      intro e
      unfold kLeft.f wire_Reader_Left.f
      exact if_pos rfl
    have nb := num_back ((rdOf ByteArray.empty l (i : Int)).size : Int) (catT (l.take i)) (bytesOf (rdOf ByteArray.empty l (i : Int)) ++ catT (l.drop (i + 1))) (by omega) (by omega)
    rw [← List.append_assoc (varL 9 _), show varL 9 ((rdOf ByteArray.empty l (i : Int)).size : Int) ++ bytesOf (rdOf ByteArray.empty l (i : Int)) = oneT (rdOf ByteArray.empty l (i : Int)) from rfl, ← ea] at nb
    have hlen : ((catT (l.take i)).length : Int) + ((varL 9 ((rdOf ByteArray.empty l (i : Int)).size : Int)).length : Int) + ((rdOf ByteArray.empty l (i : Int)).size : Int) ≤ (catT l).length := by
      rw [ea]; simp only [oneT, List.length_append, bytesOf_length]; omega
    have hcut : ((catT l).drop (((catT (l.take i)).length : Int) + ((varL 9 ((rdOf ByteArray.empty l (i : Int)).size : Int)).length : Int)).toNat).take ((rdOf ByteArray.empty l (i : Int)).size : Int).toNat = bytesOf (rdOf ByteArray.empty l (i : Int)) := by
      rw [ea, oneT, show (((catT (l.take i)).length : Int) + ((varL 9 ((rdOf ByteArray.empty l (i : Int)).size : Int)).length : Int)).toNat = (catT (l.take i) ++ varL 9 ((rdOf ByteArray.empty l (i : Int)).size : Int)).length by simp; omega, List.append_assoc, ← List.append_assoc (catT (l.take i)), List.drop_left, Int.toNat_natCast, ← bytesOf_length, List.take_left]
    have hT : wire_Reader_Text.f (catT l) ((catT (l.take i)).length : Int) 0 a = some (rdText (catT l) ((catT (l.take i)).length : Int) 0 a) := if_pos (by omega)
    generalize rdOf ByteArray.empty l (i : Int) = s at *
    have hp : ((catT (l.take i) ++ oneT s).length : Int) = ((catT (l.take i)).length : Int) + ((varL 9 (s.size : Int)).length : Int) + (s.size : Int) := by simp [oneT, bytesOf_length]; omega
    rw [hp] at ih
    generalize catT l = X at *
    generalize ((catT (l.take i)).length : Int) = p at *
    generalize ((varL 9 (s.size : Int)).length : Int) = v at *
    rw [eL 0, Option.bind_some, hT, Option.bind_some, if_pos (by omega)]
    by_cases hc : (s.size : Int) > a
    · have hu : upL X p a = .error 1 := by unfold upL; rw [nb]; exact if_pos hc
      have ht : rdText X p 0 a = (⟨#[]⟩, p, 1) := by
        unfold rdText textL
        rw [if_neg (by simp), if_neg (by omega), hu]
      have e1 : wire_Reader_Raw.f X p 1 1 = some ([], p, 1) := (if_pos (by decide)).trans (congrArg some (if_pos (by decide)))
      have e2 : wire_Reader_Num.f X p 1 5 = some (0, p, 1) := congrArg some (if_pos (by decide))
      have e3 : kErr.f X p 1 = some 1 := if_pos rfl
      have e4 : kEnd.f X p 1 = some (if (1 : Int) = 0 ∧ p < X.length then 4 else 1) := if_pos rfl
      rw [if_pos hc, ht, show tiklaw2_first.f = some true from rfl, Option.bind_some, if_pos rfl]
      dsimp only
      rw [if_pos (show (⟨#[]⟩ : ByteArray).toList = [] by rw [ByteArray.toList, ByteArray.toList.loop]; rfl), e3, Option.bind_some, if_pos rfl, eL 1, Option.bind_some, if_pos rfl, e1, Option.bind_some]
      dsimp only
      rw [if_pos (show (([] : List Int).length : Int) = 0 from rfl), e2, Option.bind_some]
      dsimp only
      rw [if_pos rfl, e4, if_neg (by omega), Option.bind_some]
      rfl
    · have hu : upL X p a = .ok ((s.size : Int), p + v) := by unfold upL; rw [nb]; exact if_neg hc
      have hr : rawL X (p + v) (s.size : Int) = .ok (p + v + (s.size : Int)) := by unfold rawL; exact if_neg (by omega)
      have ht : rdText X p 0 a = (s, p + v + (s.size : Int), 0) := by
        unfold rdText textL textOf
        rw [if_neg (by simp), if_neg (by omega), hu]
        dsimp only
        rw [hr, hcut, str_back]
      rw [if_neg hc, ht]
      dsimp only
      rw [if_pos rfl, w]
      exact ih
theorem texts_any (l : List ByteArray) (a : Int) : tiklaw2_WireTexts.f 300 l a = some true := by
  have e1 : tiklaw2_first.f = some true := rfl
  have jt : ∀ k, tiklaw2_WireTexts.j2 (k + 1) l a true = some true := fun k => rfl
  unfold tiklaw2_WireTexts.f
  rw [e1, Option.bind_some, if_pos rfl]
  by_cases hl : 60 < l.length
  · obtain ⟨y, hy⟩ := texts_l0b l a 239 hl 60 0 0 (by omega)
    refine hy.trans ?_
    rw [tiklaw2_WireTexts.j1, if_pos (by omega)]
    exact jt 237
  obtain ⟨m, hm⟩ : ∃ m, 299 = m + l.length := ⟨299 - l.length, by omega⟩
  have h0 := texts_l0 l a m l.length 0 0 (by omega) (by omega) (by omega) (by omega)
  rw [← hm] at h0
  refine h0.trans ?_
  rw [List.drop_zero, Int.zero_add]
  obtain ⟨j, rfl⟩ : ∃ j, m = j + 2 * l.length + 20 + 1 + 1 := ⟨m - 2 * l.length - 22, by omega⟩
  rw [tiklaw2_WireTexts.j1, if_neg (by omega)]
  by_cases q1 : sz l > 3000
  · rw [if_pos q1, jt]
  rw [if_neg q1]
  by_cases q2 : a < 0
  · rw [if_pos q2, jt]
  rw [if_neg q2]
  by_cases q3 : a > 4000
  · rw [decide_eq_true q3, jt]
  rw [decide_eq_false q3, tiklaw2_WireTexts.j2, if_neg (by decide)]
  obtain ⟨s1, s2⟩ := sz_small l (by omega)
  have ok : TextsOk l a := ⟨by omega, s1, fun i => by have := catT_take l i; omega, by omega, by omega⟩
  rw [show j + 2 * l.length + 20 = (j + l.length + 20) + l.length by omega]
  have h1 := texts_l1 l a ok (j + l.length + 20) (by omega) l.length 0 (by omega)
  refine (show _ = _ from h1).trans ?_
  have hn : newReader.f (catT l) = some (catT l, 0, 0) := if_pos (by omega)
  rw [show j + l.length + 20 = (j + 18 + l.length + 1) + 1 by omega, tiklaw2_WireTexts.l1, if_neg (by omega), hn, Option.bind_some, if_neg (by decide)]
  dsimp only
  have h2 := texts_l2 l a ok (j + 18) l.length 0 (by omega)
  exact h2
end Go.Proofs.Ytabljieejnhefaa.Hand
namespace Go.Proofs.Ytabljieejnhefaa.RowWireTexts
open Go.ChangeShapes Go.WideShapes Go.ChangeAt Go.RowKit
open Go.ChangeMaps (open_string shut_string)
open Go.Proofs.YtabljieejnhefaaW.PrintWords Go.Proofs.Ytabljieejnhefaa.Opens
open Go.Proofs.Ytabljieejnhefaa.Hand
set_option linter.unusedVariables false
set_option linter.unusedSimpArgs false
theorem ownK : ownKnob Try.prog.godebug = none := by kernel_rfl
theorem laidOut : laidOutB Try.prog = true := by kernel_rfl
set_option maxRecDepth 100000 in
theorem lifted (os : Os) (started : os.Started) (H : Type) (enc : TypeId × Value → H) :
    ReturnsInHanded {} Try.checked os 8 .any (Rows.wireTextsSpec.pre6 enc Try.prog Try.f8 Rows.wireTextsRow.domain false) (Rows.wireTextsSpec.post enc Try.prog Try.f8 false true false false) := by
  refine returnsInHanded_of_change_sized (C := Try.checked) ownK started (by kernel_rfl) Try.func8
    (ChangeSpec.witness6 (enc := enc) (C := Try.checked) false ⟨#[], #[.slice none 0 0, .int .i64 0], []⟩ 8 (by kernel_rfl) (by kernel_rfl) (by kernel_rfl) (by kernel_rfl)) ?_
  intro W base args ds gs before hval0 hW hcnd hsz0 _
  have hsz : (DataW.weightsEach Try.prog (Try.f8.params.toList ++ Rows.wireTextsSpec.plain.varTypes Try.prog) (ds ++ gs)).all (· ≤ reachBytes) = true := hsz0
  have hval : ∀ (j : Nat) t v, Try.f8.params[j]? = some t → args[j]? = some v → Value.okWide Try.prog W .any base t v := hval0
  have hW' := hW
  obtain ⟨p, q, hA0, hV, rfl, hfz, hnd⟩ := hW
  have hA : DataW.TrodAll enc Try.prog W 0 (fun _ => true) true Try.f8.params.toList args.toList ds p := hA0
  rw [Try.params8] at hA hval hsz
  obtain ⟨v0, vs0, d0, ds0, p0, q0, hargs, rfl, rfl, h0, r0⟩ := trodAll_cons hA
  obtain ⟨v1, vs1, d1, ds1, p1, q1, rfl, rfl, rfl, h1, r1⟩ := trodAll_cons r0
  obtain ⟨rfl, rfl, rfl⟩ := trodAll_nil r1
  obtain rfl : args = #[v0, v1] := by cases args; simp_all
  obtain ⟨rfl, rfl⟩ := trodVars_none hV
  have k0 := h0
  have lt0 : ∀ x ∈ p0, x.block < W.heap.size := by obtain ⟨m, hm⟩ := k0; exact DataW.trod_lt m _ _ _ hm
  obtain ⟨l0, ⟨A0, c0, e0, hc0, hC0⟩, q0⟩ := open_arg (o_slice Try.underlying54 (by kernel_rfl) (o_str Try.underlying9)) h0
  obtain ⟨_, _, _, z0⟩ := okWide_slice Try.underlying54 (hval 0 54 v0 rfl rfl)
  obtain rfl : v0 = .slice A0 l0.length c0 := by subst z0; simpa [Value.cells] using e0
  have y0 := sized_any hsz (j := 0) (t := 54) rfl rfl Try.underlying54 h0
  obtain ⟨a1, rfl, rfl, rfl, w1⟩ := open_int Try.underlying3 (hval 1 3 v1 rfl rfl) h1
  clear hA0 hval0
  refine (PT.tiklaw2_WireTexts.calls 300 A0 c0 l0 a1 true W hC0 hc0 ⟨rfl⟩ (texts_any l0 a1)).mono fun e W' ⟨he, bel⟩ => ?_
  subst he
  exact ⟨_, rfl, _, _, _, [], _, [], hW', trodAll_mk1 (shut_bool Try.underlying4 _), (trodAll_cons_mk (Below.trod laidOut (by kernel_rfl) (of_decide_eq_true (by kernel_rfl)) k0 bel lt0) (trodAll_cons_mk (shut_int Try.underlying3 w1) trodAll_mk0)), rfl, bel.frame _, fun h => by cases h⟩
theorem over : Rows.wireTextsRow.holds Try.pinned (OpenSpec.ofChange Rows.wireTextsSpec) :=
  OpenClaim.holds_of_wide 8 Try.f8 rfl rfl rfl rfl rfl rfl rfl ⟨rfl, rfl, rfl, rfl, rfl⟩ rfl rfl rfl rfl rfl (by kernel_rfl) Try.func8 (by kernel_rfl)
    (of_decide_eq_true (by kernel_rfl)) (by unfold Func.isWrapper; first | (rw [if_pos (by decide +kernel)]; kernel_rfl) | (rw [if_neg (by decide +kernel)]; exact ⟨rfl, rfl⟩))
    (fun os started H enc _ => lifted os started H enc)
#print axioms over
end Go.Proofs.Ytabljieejnhefaa.RowWireTexts
namespace Go.Proofs.Ytabljieejnhefaa
theorem wireTexts_holds : Rows.WireTextsSaid := RowWireTexts.over
end Go.Proofs.Ytabljieejnhefaa
