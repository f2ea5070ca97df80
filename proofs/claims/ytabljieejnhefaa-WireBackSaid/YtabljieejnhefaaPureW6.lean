/-
  A number is read back wherever it stands; a broken end is refused. No program.
-/
import Derived.Test.YtabljieejnhefaaPureW5
namespace Go.Proofs.Ytabljieejnhefaa.Hand
open Go.RowKit Go.Proofs.YtabljieejnhefaaW.PrintWords Go.Proofs.YtabljieejnhefaaW.PrintLast Go.Proofs.YtabljieejnhefaaW.PrintMore Go.Proofs.Ytabljieejnhefaa.PA Go.Proofs.Ytabljieejnhefaa.PB

theorem rd_at (P : List Int) (c : Int) (S : List Int) : rd (P ++ c :: S) (P.length : Int) = c := by
  unfold rd
  simp
theorem varL_front : ∀ (d : Nat) (a : Int), 0 ≤ a → a < 128 * 128 ^ d → ∃ F c, varL d a = F ++ [c] ∧ (∀ x ∈ F, 128 ≤ x ∧ x < 256) ∧ 0 ≤ c ∧ c < 128 ∧ F.length ≤ d
  | 0, a, h0, h1 => ⟨[], a % 256, rfl, by simp, by omega, by omega, by simp⟩
  | d + 1, a, h0, h1 => by
    by_cases q : a ≥ 128
    · obtain ⟨F, c, e, hF, c0, c1, hl⟩ := varL_front d (a / 128) (by omega) (by rw [Int.pow_succ] at h1; omega)
      refine ⟨(a % 128 + 128) :: F, c, ?_, ?_, c0, c1, by simp; omega⟩
      · show varL (d + 1) a = _
        rw [varL, if_pos q, e]; rfl
      · intro x hx
        rcases List.mem_cons.1 hx with rfl | hx
        · omega
        · exact hF x hx
    · exact ⟨[], a % 256, by rw [varL, if_neg q]; rfl, by simp, by omega, by omega, by simp⟩
theorem pow_le (i : Nat) (hi : i ≤ 9) : (1 : Int) ≤ 2 ^ (7 * i) := by
  have : i = 0 ∨ i = 1 ∨ i = 2 ∨ i = 3 ∨ i = 4 ∨ i = 5 ∨ i = 6 ∨ i = 7 ∨ i = 8 ∨ i = 9 := by omega
  rcases this with rfl | rfl | rfl | rfl | rfl | rfl | rfl | rfl | rfl | rfl <;> simp
theorem read_back : ∀ (d i : Nat) (a n : Int) (P S : List Int), i + d = 9 → 0 ≤ a → a < 128 * 128 ^ d → 0 ≤ n → n < 2 ^ (7 * i) → n + a * 2 ^ (7 * i) < 18446744073709551616 → (0 < i → 1 ≤ a) →
    numL (P ++ (varL d a ++ S)) (d + 1) i n (P.length : Int) = .ok (n + a * 2 ^ (7 * i), (P.length : Int) + ((varL d a).length : Int)) := by
  intro d
  induction d with
  | zero =>
    intro i a n P S hi h0 h1 hn0 hn hb hp
    obtain rfl : i = 9 := by omega
    have ha : a < 2 := by simp only [Nat.reduceMul, Int.reducePow] at hb hn; omega
    have e : a % 256 = a := by omega
    have hr := rd_at P (a % 256) S
    rw [e] at hr
    show numL (P ++ a % 256 :: S) 1 9 n _ = _
    rw [e, numL_succ _ 0 9 n _ a hr, if_neg (by simp; omega), if_neg (by omega), if_pos (by omega), vstep_eq n a 9 hn0 hn h0 (by omega) (by omega) (by omega)]
    rw [show a % 128 = a by omega]; rfl
  | succ d ih =>
    intro i a n P S hi h0 h1 hn0 hn hb hp
    have h2 : 1 ≤ (2 : Int) ^ (7 * i) := pow_le i (by omega)
    have e2 : (2 : Int) ^ (7 * (i + 1)) = 2 ^ (7 * i) * 128 := by rw [show 7 * (i + 1) = 7 * i + 7 by omega, Int.pow_add]; rfl
    by_cases q : a ≥ 128
    · have e1 : varL (d + 1) a = (a % 128 + 128) :: varL d (a / 128) := if_pos q
      have hr := rd_at P (a % 128 + 128) (varL d (a / 128) ++ S)
      have hv := vstep_eq n (a % 128 + 128) i hn0 hn (by omega) (by omega) (by omega) (by omega)
      rw [show (a % 128 + 128) % 128 = a % 128 by omega] at hv
      have hih := ih (i + 1) (a / 128) (n + a % 128 * 2 ^ (7 * i)) (P ++ [a % 128 + 128]) S (by omega) (by omega) (by rw [Int.pow_succ] at h1; omega)
      rw [e2] at hih
      have d1 : n + a % 128 * 2 ^ (7 * i) + a / 128 * (2 ^ (7 * i) * 128) = n + a * 2 ^ (7 * i) := by
        have : a * 2 ^ (7 * i) = (a % 128 + 128 * (a / 128)) * 2 ^ (7 * i) := by rw [Int.emod_add_mul_ediv]
        rw [this, Int.add_mul]
        have : a / 128 * (2 ^ (7 * i) * 128) = 128 * (a / 128) * 2 ^ (7 * i) := by ac_rfl
        rw [this]; omega
      have d2 : 0 ≤ a % 128 * 2 ^ (7 * i) := Int.mul_nonneg (by omega) (by omega)
      have d3 : a % 128 * 2 ^ (7 * i) ≤ 127 * 2 ^ (7 * i) := Int.mul_le_mul_of_nonneg_right (by omega) (by omega)
      rw [d1] at hih
      have hih := hih (by omega) (by omega) hb (by omega)
      have t1 : ¬ ((P.length : Int) = ((P ++ (varL (d + 1) a ++ S)).length : Int)) := by rw [e1]; simp; omega
      rw [e1] at t1 ⊢
      show numL (P ++ (a % 128 + 128) :: (varL d (a / 128) ++ S)) (d + 1 + 1) i n _ = _
      rw [numL_succ _ (d + 1) i n _ _ hr]
      refine (if_neg t1).trans ((if_neg (by omega)).trans ((if_neg (by omega)).trans ?_))
      rw [hv]
      have e3 : P ++ (a % 128 + 128) :: (varL d (a / 128) ++ S) = (P ++ [a % 128 + 128]) ++ (varL d (a / 128) ++ S) := by simp
      have e4 : (P.length : Int) + 1 = ((P ++ [a % 128 + 128]).length : Int) := by simp
      rw [e3, e4, hih, ← e4]
      simp only [List.length_cons]
      congr 2
      omega
    · have e1 : varL (d + 1) a = [a % 256] := if_neg q
      have e : a % 256 = a := by omega
      have hr := rd_at P a S
      rw [e1, e]
      show numL (P ++ a :: S) (d + 1 + 1) i n _ = _
      rw [numL_succ _ (d + 1) i n _ a hr]
      have t1 : ¬ ((P.length : Int) = ((P ++ a :: S).length : Int)) := by simp; omega
      refine (if_neg t1).trans ((if_neg (by omega)).trans ((if_pos (by omega)).trans ?_))
      rw [vstep_eq n a i hn0 hn h0 (by omega) (by omega) (by omega), show a % 128 = a by omega]; rfl
theorem broken : ∀ (W : List Int) (d i : Nat) (n : Int) (P : List Int), (∀ c ∈ W, 128 ≤ c) → (0 < i ∨ W ≠ []) → numL (P ++ (W ++ [0])) d i n (P.length : Int) = .error 2
  | W, 0, i, n, P, _, _ => rfl
  | [], d + 1, i, n, P, _, h => by
    have hi : 0 < i := h.resolve_right (by simp)
    have hr := rd_at P 0 []
    show numL (P ++ 0 :: []) (d + 1) i n _ = _
    rw [numL_succ _ d i n _ 0 hr]
    have t1 : ¬ ((P.length : Int) = ((P ++ (0 : Int) :: []).length : Int)) := by simp; omega
    exact (if_neg t1).trans (if_pos (.inr ⟨rfl, hi⟩))
  | c :: W, d + 1, i, n, P, hW, _ => by
    have hc := hW c (by simp)
    have hr := rd_at P c (W ++ [0])
    show numL (P ++ c :: (W ++ [0])) (d + 1) i n _ = _
    rw [numL_succ _ d i n _ c hr]
    have t1 : ¬ ((P.length : Int) = ((P ++ c :: (W ++ [0])).length : Int)) := by simp; omega
    refine (if_neg t1).trans ?_
    by_cases q : (i = 9 ∧ c > 1) ∨ (c = 0 ∧ 0 < i)
    · exact if_pos q
    · refine (if_neg q).trans ((if_neg (by omega)).trans ?_)
      have := broken W d (i + 1) (vstep n c i) (P ++ [c]) (fun x hx => hW x (by simp [hx])) (.inl (by omega))
      rw [show (P ++ [c]) ++ (W ++ [0]) = P ++ c :: (W ++ [0]) by simp, show ((P ++ [c]).length : Int) = (P.length : Int) + 1 by simp] at this
      exact this
theorem or_128 (c : Int) (h0 : 0 ≤ c) (h1 : c < 128) : 128 ≤ Go.bits .or .u8 c 128 := by
  rw [u8_or c 128 h0 (by omega) (by omega) (by omega)]
  have : 128 ≤ c.toNat ||| (128 : Int).toNat := Nat.right_le_or
  omega
theorem fronts_j0t (k : Nat) (l0 l1 : List Int) (a : Int) : tiklaw2_WireFronts.j0 (k + 1) l0 l1 a true = some true := rfl
theorem getV_in (l : List Int) (P : Nat) (h : P ≤ l.length) : getV l (P : Int) = numOut (numL l 10 0 0 (P : Int)) := by
  unfold getV
  rw [if_neg (by omega), if_neg (by omega)]
theorem fronts_j1 (k : Nat) (F : List Int) (c : Int) (L : List Int) (hF : ∀ x ∈ F, 128 ≤ x ∧ x < 256) (c0 : 0 ≤ c) (c1 : c < 128) (hl : F.length ≤ 9) (hL : L.length ≤ 2000) : tiklaw2_WireFronts.j1 (k + 1) (F ++ [c]) L false = some true := by
  rw [tiklaw2_WireFronts.j1, copy_any _ (by simp; omega)]
  have e1 : tiklaw2_first.f = some true := rfl
  have hlen : ((F ++ [c]).length : Int) - 1 = (F.length : Int) := by simp
  have w : wrap64 (((F ++ [c]).length : Int) - 1) = (F.length : Int) := by rw [hlen]; exact IntWalk.wrap64_in _ (by omega)
  have w2 : wrap64 ((L.length : Int) + 1) = (L.length : Int) + 1 := IntWalk.wrap64_in _ (by omega)
  have hr : rd (F ++ [c]) (F.length : Int) = c := rd_at F c []
  have hs : (F ++ [c]).set F.length (Go.bits .or .u8 c 128) = F ++ [Go.bits .or .u8 c 128] := by simp
  have hb := broken (F ++ [Go.bits .or .u8 c 128]) 10 0 0 [] (by
    intro x hx
    rcases List.mem_append.1 hx with h | h
    · exact (hF x h).1
    · rw [List.mem_singleton.1 h]; exact or_128 c c0 c1) (.inr (by simp))
  have g1 : wire_Get.f ((F ++ [Go.bits .or .u8 c 128]) ++ [0]) 0 = some (0, 0, 2) := by
    have := getV_in ((F ++ [Go.bits .or .u8 c 128]) ++ [0]) 0 (by omega)
    refine congrArg some (this.trans ?_)
    have hb' : numL ((F ++ [Go.bits .or .u8 c 128]) ++ [0]) 10 0 0 ((0 : Nat) : Int) = .error 2 := by simpa using hb
    rw [hb']; rfl
  have g2 : wire_Get.f L (-1) = some (0, 0, 1) := by
    refine congrArg some ?_
    unfold getV
    rw [if_pos (by omega)]
  have g3 : wire_Get.f L ((L.length : Int) + 1) = some (0, 0, 1) := by
    refine congrArg some ?_
    unfold getV
    rw [if_neg (by omega), if_pos (by omega)]
  simp only [Option.bind_some, w, w2, hr, Int.toNat_natCast, hs, g1, g2, g3, e1]
  refine (if_neg (by simp)).trans ((if_pos (by omega)).trans ((if_pos (by simp; omega)).trans ((if_pos (by simp; omega)).trans ?_)))
  rfl
theorem fronts_any (l0 l1 : List Int) (a : Int) (b0 : Bytes255 l0) (b1 : Bytes255 l1) (h0 : 0 ≤ a) (h1 : a < 18446744073709551616) : tiklaw2_WireFronts.f 30000 l0 l1 a = some true := by
  have e1 : tiklaw2_first.f = some true := rfl
  unfold tiklaw2_WireFronts.f
  rw [e1, Option.bind_some]
  refine (if_pos rfl).trans ?_
  by_cases q1 : (l0.length : Int) > 500
  · exact (if_pos q1).trans (fronts_j0t 29999 _ _ _)
  refine (if_neg q1).trans ?_
  by_cases q2 : (l1.length : Int) > 500
  · rw [decide_eq_true q2]; exact fronts_j0t 29999 _ _ _
  rw [decide_eq_false q2]
  obtain ⟨F, c, eV, hF, c0, c1, hl⟩ := varL_front 9 a h0 (by simp only [Int.reducePow, Int.reduceMul]; omega)
  have hV : (varL 9 a).length = F.length + 1 := by rw [eV]; simp
  have v1 := wireVar_any 29999 (by omega) a h0 h1
  have rb := read_back 9 0 a 0 l0 l1 rfl h0 (by simp only [Int.reducePow, Int.reduceMul]; omega) (by omega) (by simp) (by simpa using h1) (by omega)
  simp only [Nat.mul_zero, Int.pow_zero, Int.mul_one, Int.zero_add] at rb
  have g : wire_Get.f ((l0 ++ varL 9 a) ++ l1) (l0.length : Int) = some (a, (l0.length : Int) + ((varL 9 a).length : Int), 0) := by
    refine congrArg some ((getV_in _ l0.length (by simp)).trans ?_)
    rw [List.append_assoc, rb]; rfl
  have w : wrap64 ((l0.length : Int) + ((varL 9 a).length : Int)) = (l0.length : Int) + ((varL 9 a).length : Int) := IntWalk.wrap64_in _ (by omega)
  have t : decide (((varL 9 a).length : Int) < 1) = false := decide_eq_false (by omega)
  have j := fronts_j1 29998 F c ((l0 ++ varL 9 a) ++ l1) hF c0 c1 hl (by simp; omega)
  rw [← eV] at j
  rw [show (30000 : Nat) = 29999 + 1 from rfl, tiklaw2_WireFronts.j0]
  simp only [copy_any l0 (by omega), v1, Option.bind_some, g, w, t]
  refine (if_neg (by simp)).trans ((if_pos (by omega)).trans ((if_pos (by simp; omega)).trans ?_))
  exact (if_pos trivial).trans ((if_pos trivial).trans ((if_pos trivial).trans j))
end Go.Proofs.Ytabljieejnhefaa.Hand
