/-
  tikref1: which fractions may be, and Scale, are those of the program. No program.
-/
import Derived.Test.YtpebcphkockkkaaDoorRate2
import Derived.Test.YtpebcphkockkkaaDoorPDx1
namespace Go.Proofs.YtpebcphkockkkaaDoor.Hand
open Go.RowKit Go.Proofs.YtpebcphkockkkaaDoorW.PrintWords Go.Proofs.YtpebcphkockkkaaDoorW.PrintLast Go.Proofs.YtpebcphkockkkaaDoorW.PrintMore Go.Proofs.YtpebcphkockkkaaDoor.PA Go.Proofs.YtpebcphkockkkaaDoor.PB Go.Proofs.YtpebcphkockkkaaDoor.PD
set_option linter.unusedSimpArgs false
set_option linter.unusedVariables false
set_option exponentiation.threshold 3000

structure Sp (n d : Int) : Prop where
  may : rate_May.f n d = some true
  d1 : 1 ≤ d
  d2 : d ≤ 1048576
  n0 : 0 ≤ n
  n1 : n ≤ 1073741824
theorem sp_of {n d : Int} (h : rate_May.f n d = some true) (hn : 0 ≤ n) (hd : 0 ≤ d) : Sp n d := by
  obtain ⟨k, hk, e, h2⟩ := may_pow h hd
  obtain ⟨a, b⟩ := pow_20 k hk
  rw [← e] at a b
  exact ⟨h, a, b, hn, by omega⟩
theorem scale_f {t r n d : Int} (S : Sp n d) (ht : U64 t) (r0 : 0 ≤ r) (r1 : r < d) : rate_Scale.f t r n d = some (scaleV t r n d) := by
  obtain ⟨a, b, c, e, f⟩ := S
  unfold rate_Scale.f
  rw [if_pos ⟨ht, ⟨r0, by omega⟩, ⟨e, by omega⟩, ⟨by omega, by omega⟩⟩, a, Option.bind_some, if_pos ⟨rfl, r1⟩]
theorem may_some (n d : Int) : rate_May.f n d ≠ none := by
  unfold rate_May.f
  obtain ⟨c, hc⟩ : ∃ c, bits_OnesCount64.f d = some c := ⟨_, rfl⟩
  rw [hc, Option.bind_some]
  repeat' split
  all_goals simp
theorem and_pred (x : Nat) : ∀ n, x ≤ n → 1 ≤ x → x &&& (x - 1) = 0 → ∃ k, x = 2 ^ k := by
  intro n
  induction n generalizing x with
  | zero => intro h1 h2; omega
  | succ n ih =>
    intro h1 h2 h3
    rcases Nat.lt_or_ge x 2 with h | h
    · exact ⟨0, by omega⟩
    · rcases Nat.mod_two_eq_zero_or_one x with e | e
      · obtain ⟨y, rfl⟩ : ∃ y, x = 2 * y := ⟨x / 2, by omega⟩
        have : (2 * y &&& (2 * y - 1)) / 2 = 0 := by rw [h3]
        rw [Nat.and_div_two] at this
        have e1 : 2 * y / 2 = y := by omega
        have e2 : (2 * y - 1) / 2 = y - 1 := by omega
        rw [e1, e2] at this
        obtain ⟨k, hk⟩ := ih y (by omega) (by omega) this
        exact ⟨k + 1, by rw [hk, Nat.pow_succ]; omega⟩
      · have : (x &&& (x - 1)) / 2 = 0 := by rw [h3]
        rw [Nat.and_div_two] at this
        have e2 : (x - 1) / 2 = x / 2 := by omega
        rw [e2, Nat.and_self] at this
        omega

theorem pop21 : ∀ k : Fin 21, bits_OnesCount64.f ((2 : Int) ^ k.val) = some 1 ∧ Go.bits .and .u64 ((2 : Int) ^ k.val) (IntKind.u64.wrap ((2 : Int) ^ k.val - 1)) = 0 ∧ IntKind.u64.wrap (1024 * (2 : Int) ^ k.val) = 1024 * (2 : Int) ^ k.val := by decide +kernel
theorem and_one (n : Int) (hn : U64 n) : Go.bits .and .u64 n 1 = n % 2 := by
  obtain ⟨x, rfl⟩ := Int.eq_ofNat_of_zero_le hn.1
  have := u64_and_nat x 1 (by have := hn.2; omega) (by decide)
  refine this.trans ?_
  rw [Nat.and_one_is_mod]; omega
theorem tmod_two (n : Int) (hn : 0 ≤ n) : Int.tmod n 2 = n % 2 := Int.tmod_eq_emod_of_nonneg hn
/-- Which fractions may be: the document's answer is the program's. -/
theorem ref_may (n d : Int) (hn : U64 n) (hd : U64 d) : tikref1_May.f n d = rate_May.f n d := by
  by_cases hp : ∃ k : Nat, k ≤ 20 ∧ d = 2 ^ k
  · obtain ⟨k, hk, rfl⟩ := hp
    obtain ⟨p1, p2⟩ := pow_20 k hk
    obtain ⟨f1, f2, f3⟩ := pop21 ⟨k, by omega⟩
    dsimp only at f1 f2 f3
    unfold tikref1_May.f rate_May.f
    rw [f1, Option.bind_some, f2, f3, and_one n hn, tmod_two n hn.1]
    generalize (2 : Int) ^ k = D at *
    clear f1 f2 f3
    rw [if_neg (by omega), if_neg (by omega), if_pos rfl, if_pos rfl, if_pos p2]
    by_cases q : n ≤ 1024 * D
    · rw [if_pos q, if_neg (by omega)]
    · rw [if_neg q, if_pos (by omega)]
  · have hr : rate_May.f n d = some false := by
      cases hM : rate_May.f n d with
      | none => exact absurd hM (may_some n d)
      | some b =>
        cases b with
        | false => rfl
        | true =>
          obtain ⟨k, hk, e, _⟩ := may_pow hM hd.1
          exact absurd ⟨k, hk, e⟩ hp
    rw [hr]
    unfold tikref1_May.f
    by_cases q1 : d < 1
    · rw [if_pos q1]
    · rw [if_neg q1]
      by_cases q2 : d > 1048576
      · rw [if_pos q2]
      · rw [if_neg q2]
        refine if_neg ?_
        intro h
        obtain ⟨x, rfl⟩ := Int.eq_ofNat_of_zero_le hd.1
        have e1 : IntKind.u64.wrap ((x : Int) - 1) = ((x - 1 : Nat) : Int) := by rw [IntWalk.u64_in _ (by omega)]; omega
        rw [e1, u64_and_nat x (x - 1) (by omega) (by omega)] at h
        obtain ⟨k, hk⟩ := and_pred x x (Nat.le_refl _) (by omega) (by omega)
        apply hp
        refine ⟨k, ?_, by rw [hk]; simp⟩
        apply Classical.byContradiction
        intro hc
        have : 2 ^ 21 ≤ 2 ^ k := Nat.pow_le_pow_right (by decide) (by omega)
        have e5 : (2 : Nat) ^ 21 = 2097152 := by decide
        omega
theorem shl_facts : ∀ k i : Fin 21, 0 ≤ IntKind.u64.wrap (i.val : Int) ∧ (shl .u64 1 (IntKind.u64.wrap (i.val : Int)) < (2 : Int) ^ k.val ↔ i.val < k.val) ∧ wrap64 ((i.val : Int) + 1) = ((i.val + 1 : Nat) : Int) := by decide +kernel
theorem shl_end : ∀ k : Fin 21, 0 ≤ IntKind.u64.wrap (wrap64 (31 + (k.val : Int))) ∧ shl .u64 1 (IntKind.u64.wrap (wrap64 (31 + (k.val : Int)))) = (2 : Int) ^ (31 + k.val) ∧ 0 ≤ IntKind.u64.wrap (wrap64 (32 - (k.val : Int))) ∧ IntKind.u64.wrap (wrap64 (32 - (k.val : Int))) = 32 - (k.val : Int) ∧ IntKind.u64.wrap (k.val : Int) = (k.val : Int) ∧ IntKind.u64.wrap ((2 : Int) ^ k.val - 1) = (2 : Int) ^ k.val - 1 := by decide +kernel
theorem ref_loop (x low n : Int) (k : Nat) (hk : k ≤ 20) (K : Nat) : ∀ m i, i + m = k → tikref1_Scale.l0 (K + 1 + m) x low (i : Int) n (2 ^ k) = tikref1_Scale.l0 (K + 1) x low (k : Int) n (2 ^ k) := by
  intro m
  induction m with
  | zero => intro i h; rw [show i = k by omega]
  | succ m ih =>
    intro i h
    obtain ⟨f1, f2, f3⟩ := shl_facts ⟨k, by omega⟩ ⟨i, by omega⟩
    dsimp only at f1 f2 f3
    rw [show K + 1 + (m + 1) = (K + 1 + m) + 1 by omega, tikref1_Scale.l0, if_pos f1, if_pos (f2.2 (by omega)), f3]
    exact ih (i + 1) (by omega)

theorem fin_nums (k : Nat) (hk : k ≤ 20) (x low : Int) (x0 : 0 ≤ x) (l0 : 0 ≤ low) (l1 : low < 4294967296) :
    (x ≥ 2 ^ (31 + k) → (x * 4294967296 + low) / 2 ^ k > 4611686018427387904) ∧
    (x < 2 ^ (31 + k) → (x * 4294967296 + low) / 2 ^ k = x * 2 ^ (32 - k) + low / 2 ^ k ∧ 0 ≤ x * 2 ^ (32 - k) ∧ x * 2 ^ (32 - k) ≤ 9223372036854775808 ∧ 0 ≤ low / 2 ^ k ∧ low / 2 ^ k < 4294967296) ∧
    (x * 4294967296 + low) % 2 ^ k = low % 2 ^ k := by
  have : k = 0 ∨ k = 1 ∨ k = 2 ∨ k = 3 ∨ k = 4 ∨ k = 5 ∨ k = 6 ∨ k = 7 ∨ k = 8 ∨ k = 9 ∨ k = 10 ∨ k = 11 ∨ k = 12 ∨ k = 13 ∨ k = 14 ∨ k = 15 ∨ k = 16 ∨ k = 17 ∨ k = 18 ∨ k = 19 ∨ k = 20 := by omega
  rcases this with rfl | rfl | rfl | rfl | rfl | rfl | rfl | rfl | rfl | rfl | rfl | rfl | rfl | rfl | rfl | rfl | rfl | rfl | rfl | rfl | rfl
  all_goals
    simp only [Nat.reduceAdd, Nat.reduceSub, Int.reducePow]
    refine ⟨?_, ?_, ?_⟩
    · omega
    · intro h
      refine ⟨?_, ?_, ?_, ?_, ?_⟩ <;> omega
    · omega
theorem and_mask (a : Int) (k : Nat) (hk : k ≤ 32) (h : U64 a) : Go.bits .and .u64 a (2 ^ k - 1) = a % 2 ^ k := by
  obtain ⟨x, rfl⟩ := Int.eq_ofNat_of_zero_le h.1
  have p1 : 1 ≤ (2 : Nat) ^ k := Nat.one_le_two_pow
  have p2 : (2 : Nat) ^ k ≤ 2 ^ 32 := Nat.pow_le_pow_right (by decide) hk
  have e : ((2 : Int) ^ k - 1) = ((2 ^ k - 1 : Nat) : Int) := by rw [Int.natCast_sub p1, Int.natCast_pow]; rfl
  have e32 : (2 : Nat) ^ 32 = 4294967296 := by decide
  rw [e, u64_and_nat x (2 ^ k - 1) (by have := h.2; omega) (by omega), Nat.and_two_pow_sub_one_eq_mod, Int.natCast_emod, Int.natCast_pow]; rfl
theorem ref_fin (k : Nat) (hk : k ≤ 20) (x low n : Int) (x0 : 0 ≤ x) (l0 : 0 ≤ low) (l1 : low < 4294967296) (K : Nat) :
    tikref1_Scale.l0 (K + 1) x low (k : Int) n (2 ^ k) = some (if (x * 4294967296 + low) / 2 ^ k > 4611686018427387904 then (0, 0, 1) else ((x * 4294967296 + low) / 2 ^ k, (x * 4294967296 + low) % 2 ^ k, 0)) := by
  obtain ⟨f1, f2, _⟩ := shl_facts ⟨k, by omega⟩ ⟨k, by omega⟩
  obtain ⟨g1, g2, g3, g4, g5, g6⟩ := shl_end ⟨k, by omega⟩
  dsimp only at f1 f2 g1 g2 g3 g4 g5 g6
  have nf2 : ¬ shl .u64 1 (IntKind.u64.wrap (k : Int)) < (2 : Int) ^ k := fun h => absurd (f2.1 h) (Nat.lt_irrefl _)
  obtain ⟨h1, h2, h3⟩ := fin_nums k hk x low x0 l0 l1
  rw [tikref1_Scale.l0, if_pos f1, if_neg nf2, if_pos g1, g2]
  by_cases q : x ≥ 2 ^ (31 + k)
  · rw [if_pos q, if_pos (h1 q)]
  · obtain ⟨e1, b1, b2, b3, b4⟩ := h2 (by omega)
    have es : shl .u64 x (IntKind.u64.wrap (wrap64 (32 - (k : Int)))) = x * 2 ^ (32 - k) := by
      rw [g4]
      unfold shl
      have : min ((32 - (k : Int)).toNat) IntKind.u64.bits = 32 - k := by
        have : (32 - (k : Int)).toNat = 32 - k := by omega
        rw [this]; show min (32 - k) 64 = 32 - k; omega
      rw [this, IntWalk.u64_in _ ⟨b1, by omega⟩]
    have er : shr .u64 low (IntKind.u64.wrap (k : Int)) = low / 2 ^ k := by
      rw [g5]
      unfold shr
      have : min ((k : Int).toNat) IntKind.u64.bits = k := by show min k 64 = k; omega
      rw [this]
    rw [if_neg q, if_pos g3, es, er, g6, and_mask low k (by omega) ⟨l0, by omega⟩, e1, h3, IntWalk.u64_in _ ⟨by omega, by omega⟩]
    by_cases q2 : x * 2 ^ (32 - k) + low / 2 ^ k > 4611686018427387904
    · rw [if_pos q2, if_pos q2]
    · rw [if_neg q2, if_neg q2]
theorem ref_scale {t r n d : Int} (S : Sp n d) (ht : U64 t) (r0 : 0 ≤ r) (r1 : r < d) (K : Nat) : tikref1_Scale.f (K + 30) t r n d = some (scaleV t r n d) := by
  have hm : tikref1_May.f n d = some true := (ref_may n d ⟨S.n0, by have := S.n1; omega⟩ ⟨by have := S.d1; omega, by have := S.d2; omega⟩).trans S.may
  have hn0 := S.n0
  have hn1 := S.n1
  have hd2 := S.d2
  obtain ⟨k, hk, rfl, _⟩ := may_pow S.may (by have := S.d1; omega)
  have p1 : 0 ≤ t % 4294967296 * n := Int.mul_nonneg (by omega) hn0
  have p2 : t % 4294967296 * n ≤ 4294967295 * 1073741824 := Int.mul_le_mul (by omega) hn1 hn0 (by omega)
  have p3 : 0 ≤ t / 4294967296 * n := Int.mul_nonneg (by have := ht.1; omega) hn0
  have p4 : t / 4294967296 * n ≤ 4294967295 * 1073741824 := Int.mul_le_mul (by have := ht.2; omega) hn1 hn0 (by omega)
  have e0 : t * n = t / 4294967296 * n * 4294967296 + t % 4294967296 * n := by
    have : t = t / 4294967296 * 4294967296 + t % 4294967296 := by omega
    calc t * n = (t / 4294967296 * 4294967296 + t % 4294967296) * n := by rw [← this]
      _ = _ := by rw [Int.add_mul, Int.mul_assoc, Int.mul_comm 4294967296 n, ← Int.mul_assoc]
  unfold tikref1_Scale.f
  rw [hm, Option.bind_some, if_pos rfl, decide_eq_false (show ¬ r ≥ 2 ^ k by omega), show K + 30 = (K + 28 - k + 1 + k) + 1 by omega, tikref1_Scale.j0, if_neg (show ¬ (false = true) by decide)]
  have em : Go.bits .and .u64 t 4294967295 = t % 4294967296 := and_mask t 32 (by omega) ht
  rw [em]
  unfold scaleV
  rw [e0]
  generalize t % 4294967296 * n = A at *
  generalize t / 4294967296 * n = B at *
  clear em e0 hm S
  have w1 : IntKind.u64.wrap A = A := IntWalk.u64_in _ ⟨p1, by omega⟩
  have w2 : IntKind.u64.wrap (A + r) = A + r := IntWalk.u64_in _ ⟨by omega, by clear w1; omega⟩
  have w3 : IntKind.u64.wrap B = B := IntWalk.u64_in _ ⟨p3, by clear w1 w2; omega⟩
  have w4 : IntKind.u64.wrap (B + (A + r) / 4294967296) = B + (A + r) / 4294967296 := IntWalk.u64_in _ ⟨by clear w1 w2 w3; omega, by clear w1 w2 w3; omega⟩
  have em2 : Go.bits .and .u64 (A + r) 4294967295 = (A + r) % 4294967296 := and_mask (A + r) 32 (by omega) ⟨by clear w1 w2 w3 w4; omega, by clear w1 w2 w3 w4; omega⟩
  rw [w1, w2, w3, w4, em2]
  clear w1 w2 w3 w4 em2
  have l := ref_loop (B + (A + r) / 4294967296) ((A + r) % 4294967296) n k hk (K + 28 - k) k 0 (by omega)
  refine l.trans ?_
  rw [ref_fin k hk _ _ n (by omega) (by omega) (by omega)]
  have : (B + (A + r) / 4294967296) * 4294967296 + (A + r) % 4294967296 = B * 4294967296 + A + r := by omega
  rw [this]
end Go.Proofs.YtpebcphkockkkaaDoor.Hand
