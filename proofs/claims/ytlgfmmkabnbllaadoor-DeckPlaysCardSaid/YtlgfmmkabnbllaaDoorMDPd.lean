/- Texts of this claim, put together. -/
import Derived.Test.YtlgfmmkabnbllaaDoorMDPc
import Derived.Test.YtlgfmmkabnbllaaDoorMDPa
import Derived.Test.YtlgfmmkabnbllaaDoorMDPb
import Derived.Test.YtlgfmmkabnbllaaDoorProg
import Derived.Below
import Derived.Deep.Draws
import Derived.Deep.AppendLies
import Derived.Maps.AppendAt
import Derived.OwnWalk
import Derived.Laws.BytesArg
import Derived.Laws.MakeOwn
import Derived.Laws.OwnMore
import Derived.Deep.OwnRows
import Derived.Tactics
import Derived.Lib.ConvBytes
import Derived.Laws.Slices
import Derived.WalkKit
import Derived.KernelRfl
import Derived.RowKit3
import Derived.Deep.LoopGhost
import Derived.Deep.QuietTactic
import Derived.BigQuiet
import Derived.WideLaws
import Derived.Deep.DeepCutAuto
import Derived.Deep.CutBlock
import Derived.Deep.RegionHeld3
import Derived.Laws.Rows
import Derived.Lib.AppendStr
import Derived.ArgAppend
import Derived.Laws.IdiomCopy
import Derived.OrdersHeld
import Derived.Laws.BitsLemmas
import Derived.RowKit
import Derived.Test.YtlgfmmkabnbllaaDoorMDPWWords
import Derived.Test.YtlgfmmkabnbllaaDoorMDPWLast
import Derived.Test.YtlgfmmkabnbllaaDoorMDPWTab
import Derived.Test.YtlgfmmkabnbllaaDoorMDPWApart
import Derived.Test.YtlgfmmkabnbllaaDoorMDPWFoot
import Derived.Test.YtlgfmmkabnbllaaDoorMDPWShare
import Derived.Test.YtlgfmmkabnbllaaDoorMDPWN
import Derived.Test.YtlgfmmkabnbllaaDoorMDPWEqStruct
import Derived.Test.YtlgfmmkabnbllaaDoorMDPWRepsOne
import Derived.Test.YtlgfmmkabnbllaaDoorMDPWInv
import Derived.Test.YtlgfmmkabnbllaaDoorMDPWMore
set_option linter.unusedVariables false
set_option linter.unusedSimpArgs false
namespace Go.Proofs.YtlgfmmkabnbllaaDoor.Hand
open Go.RowKit Go.Proofs.YtlgfmmkabnbllaaDoorW.PrintWords Go.Proofs.YtlgfmmkabnbllaaDoorW.PrintLast Go.Proofs.YtlgfmmkabnbllaaDoorW.PrintMore Go.Proofs.YtlgfmmkabnbllaaDoor.PA Go.Proofs.YtlgfmmkabnbllaaDoor.PB Go.Proofs.YtlgfmmkabnbllaaDoor.PC Go.Proofs.YtlgfmmkabnbllaaDoor.PD
theorem and_pred (x : Nat) : ∀ n, x ≤ n → 1 ≤ x → x &&& (x - 1) = 0 → ∃ k, x = 2 ^ k := by
  intro n
  induction n generalizing x with
  | zero => intro h1 h2; omega
  | succ n ih =>
    intro h1 h2 h3
    rcases Nat.lt_or_ge x 2 with h | h
    · exact ⟨0, by omega⟩
    · rcases Nat.mod_two_eq_zero_or_one x with e | e
      · obtain ⟨y, rfl⟩ : ∃ y, x = 2 * y := ⟨x / 2, by omega⟩
        have : (2 * y &&& (2 * y - 1)) / 2 = 0 := by rw [h3]
        rw [Nat.and_div_two] at this
        have e1 : 2 * y / 2 = y := by omega
        have e2 : (2 * y - 1) / 2 = y - 1 := by omega
        rw [e1, e2] at this
        obtain ⟨k, hk⟩ := ih y (by omega) (by omega) this
        exact ⟨k + 1, by rw [hk, Nat.pow_succ]; omega⟩
      · have : (x &&& (x - 1)) / 2 = 0 := by rw [h3]
        rw [Nat.and_div_two] at this
        have e2 : (x - 1) / 2 = x / 2 := by omega
        rw [e2, Nat.and_self] at this
        omega
theorem pop21 : ∀ k : Fin 21, bits_OnesCount64.f ((2 : Int) ^ k.val) = some 1 ∧ Go.bits .and .u64 ((2 : Int) ^ k.val) (IntKind.u64.wrap ((2 : Int) ^ k.val - 1)) = 0 ∧ IntKind.u64.wrap (1024 * (2 : Int) ^ k.val) = 1024 * (2 : Int) ^ k.val := by decide +kernel
theorem and_one (n : Int) (hn : U64 n) : Go.bits .and .u64 n 1 = n % 2 := by
  obtain ⟨x, rfl⟩ := Int.eq_ofNat_of_zero_le hn.1
  have := u64_and_nat x 1 (by have := hn.2; omega) (by decide)
  refine this.trans ?_
  rw [Nat.and_one_is_mod]; omega
theorem tmod_two (n : Int) (hn : 0 ≤ n) : Int.tmod n 2 = n % 2 := Int.tmod_eq_emod_of_nonneg hn
theorem ref_may (n d : Int) (hn : U64 n) (hd : U64 d) : tikref1_May.f n d = rate_May.f n d := by
  by_cases hp : ∃ k : Nat, k ≤ 20 ∧ d = 2 ^ k
  · obtain ⟨k, hk, rfl⟩ := hp
    obtain ⟨p1, p2⟩ := pow_20 k hk
    obtain ⟨f1, f2, f3⟩ := pop21 ⟨k, by omega⟩
    dsimp only at f1 f2 f3
    unfold tikref1_May.f rate_May.f
    rw [f1, Option.bind_some, f2, f3, and_one n hn, tmod_two n hn.1]
    generalize (2 : Int) ^ k = D at *
    clear f1 f2 f3
    rw [if_neg (by omega), if_neg (by omega), if_pos rfl, if_pos rfl, if_pos p2]
    by_cases q : n ≤ 1024 * D
    · rw [if_pos q, if_neg (by omega)]
    · rw [if_neg q, if_pos (by omega)]
  · have hr : rate_May.f n d = some false := by
      cases hM : rate_May.f n d with
      | none => exact absurd hM (may_some n d)
      | some b =>
        cases b with
        | false => rfl
        | true =>
          obtain ⟨k, hk, e, _⟩ := may_pow hM hd.1
          exact absurd ⟨k, hk, e⟩ hp
    rw [hr]
    unfold tikref1_May.f
    by_cases q1 : d < 1
    · rw [if_pos q1]
    · rw [if_neg q1]
      by_cases q2 : d > 1048576
      · rw [if_pos q2]
      · rw [if_neg q2]
        refine if_neg ?_
        intro h
        obtain ⟨x, rfl⟩ := Int.eq_ofNat_of_zero_le hd.1
        have e1 : IntKind.u64.wrap ((x : Int) - 1) = ((x - 1 : Nat) : Int) := by rw [IntWalk.u64_in _ (by omega)]; omega
        rw [e1, u64_and_nat x (x - 1) (by omega) (by omega)] at h
        obtain ⟨k, hk⟩ := and_pred x x (Nat.le_refl _) (by omega) (by omega)
        apply hp
        refine ⟨k, ?_, by rw [hk]; simp⟩
        apply Classical.byContradiction
        intro hc
        have : 2 ^ 21 ≤ 2 ^ k := Nat.pow_le_pow_right (by decide) (by omega)
        have e5 : (2 : Nat) ^ 21 = 2097152 := by decide
        omega
theorem shl_facts : ∀ k i : Fin 21, 0 ≤ IntKind.u64.wrap (i.val : Int) ∧ (shl .u64 1 (IntKind.u64.wrap (i.val : Int)) < (2 : Int) ^ k.val ↔ i.val < k.val) ∧ wrap64 ((i.val : Int) + 1) = ((i.val + 1 : Nat) : Int) := by decide +kernel
theorem shl_end : ∀ k : Fin 21, 0 ≤ IntKind.u64.wrap (wrap64 (31 + (k.val : Int))) ∧ shl .u64 1 (IntKind.u64.wrap (wrap64 (31 + (k.val : Int)))) = (2 : Int) ^ (31 + k.val) ∧ 0 ≤ IntKind.u64.wrap (wrap64 (32 - (k.val : Int))) ∧ IntKind.u64.wrap (wrap64 (32 - (k.val : Int))) = 32 - (k.val : Int) ∧ IntKind.u64.wrap (k.val : Int) = (k.val : Int) ∧ IntKind.u64.wrap ((2 : Int) ^ k.val - 1) = (2 : Int) ^ k.val - 1 := by decide +kernel
theorem ref_loop (x low n : Int) (k : Nat) (hk : k ≤ 20) (K : Nat) : ∀ m i, i + m = k → tikref1_Scale.l0 (K + 1 + m) x low (i : Int) n (2 ^ k) = tikref1_Scale.l0 (K + 1) x low (k : Int) n (2 ^ k) := by
  intro m
  induction m with
  | zero => intro i h; rw [show i = k by omega]
  | succ m ih =>
    intro i h
    obtain ⟨f1, f2, f3⟩ := shl_facts ⟨k, by omega⟩ ⟨i, by omega⟩
    dsimp only at f1 f2 f3
    rw [show K + 1 + (m + 1) = (K + 1 + m) + 1 by omega, tikref1_Scale.l0, if_pos f1, if_pos (f2.2 (by omega)), f3]
    exact ih (i + 1) (by omega)
theorem fin_nums (k : Nat) (hk : k ≤ 20) (x low : Int) (x0 : 0 ≤ x) (l0 : 0 ≤ low) (l1 : low < 4294967296) :
    (x ≥ 2 ^ (31 + k) → (x * 4294967296 + low) / 2 ^ k > 4611686018427387904) ∧
    (x < 2 ^ (31 + k) → (x * 4294967296 + low) / 2 ^ k = x * 2 ^ (32 - k) + low / 2 ^ k ∧ 0 ≤ x * 2 ^ (32 - k) ∧ x * 2 ^ (32 - k) ≤ 9223372036854775808 ∧ 0 ≤ low / 2 ^ k ∧ low / 2 ^ k < 4294967296) ∧
    (x * 4294967296 + low) % 2 ^ k = low % 2 ^ k := by
  have : k = 0 ∨ k = 1 ∨ k = 2 ∨ k = 3 ∨ k = 4 ∨ k = 5 ∨ k = 6 ∨ k = 7 ∨ k = 8 ∨ k = 9 ∨ k = 10 ∨ k = 11 ∨ k = 12 ∨ k = 13 ∨ k = 14 ∨ k = 15 ∨ k = 16 ∨ k = 17 ∨ k = 18 ∨ k = 19 ∨ k = 20 := by omega
  rcases this with rfl | rfl | rfl | rfl | rfl | rfl | rfl | rfl | rfl | rfl | rfl | rfl | rfl | rfl | rfl | rfl | rfl | rfl | rfl | rfl | rfl
  all_goals
    simp only [Nat.reduceAdd, Nat.reduceSub, Int.reducePow]
    refine ⟨?_, ?_, ?_⟩
    · omega
    · intro h
      refine ⟨?_, ?_, ?_, ?_, ?_⟩ <;> omega
    · omega
theorem and_mask (a : Int) (k : Nat) (hk : k ≤ 32) (h : U64 a) : Go.bits .and .u64 a (2 ^ k - 1) = a % 2 ^ k := by
  obtain ⟨x, rfl⟩ := Int.eq_ofNat_of_zero_le h.1
  have p1 : 1 ≤ (2 : Nat) ^ k := Nat.one_le_two_pow
  have p2 : (2 : Nat) ^ k ≤ 2 ^ 32 := Nat.pow_le_pow_right (by decide) hk
  have e : ((2 : Int) ^ k - 1) = ((2 ^ k - 1 : Nat) : Int) := by rw [Int.natCast_sub p1, Int.natCast_pow]; rfl
  have e32 : (2 : Nat) ^ 32 = 4294967296 := by decide
  rw [e, u64_and_nat x (2 ^ k - 1) (by have := h.2; omega) (by omega), Nat.and_two_pow_sub_one_eq_mod, Int.natCast_emod, Int.natCast_pow]; rfl
theorem ref_fin (k : Nat) (hk : k ≤ 20) (x low n : Int) (x0 : 0 ≤ x) (l0 : 0 ≤ low) (l1 : low < 4294967296) (K : Nat) :
    tikref1_Scale.l0 (K + 1) x low (k : Int) n (2 ^ k) = some (if (x * 4294967296 + low) / 2 ^ k > 4611686018427387904 then (0, 0, 1) else ((x * 4294967296 + low) / 2 ^ k, (x * 4294967296 + low) % 2 ^ k, 0)) := by
  obtain ⟨f1, f2, _⟩ := shl_facts ⟨k, by omega⟩ ⟨k, by omega⟩
  obtain ⟨g1, g2, g3, g4, g5, g6⟩ := shl_end ⟨k, by omega⟩
  dsimp only at f1 f2 g1 g2 g3 g4 g5 g6
  have nf2 : ¬ shl .u64 1 (IntKind.u64.wrap (k : Int)) < (2 : Int) ^ k := fun h => absurd (f2.1 h) (Nat.lt_irrefl _)
  obtain ⟨h1, h2, h3⟩ := fin_nums k hk x low x0 l0 l1
  rw [tikref1_Scale.l0, if_pos f1, if_neg nf2, if_pos g1, g2]
  by_cases q : x ≥ 2 ^ (31 + k)
  · rw [if_pos q, if_pos (h1 q)]
  · obtain ⟨e1, b1, b2, b3, b4⟩ := h2 (by omega)
    have es : shl .u64 x (IntKind.u64.wrap (wrap64 (32 - (k : Int)))) = x * 2 ^ (32 - k) := by
      rw [g4]
      unfold shl
      have : min ((32 - (k : Int)).toNat) IntKind.u64.bits = 32 - k := by
        have : (32 - (k : Int)).toNat = 32 - k := by omega
        rw [this]; show min (32 - k) 64 = 32 - k; omega
      rw [this, IntWalk.u64_in _ ⟨b1, by omega⟩]
    have er : shr .u64 low (IntKind.u64.wrap (k : Int)) = low / 2 ^ k := by
      rw [g5]
      unfold shr
      have : min ((k : Int).toNat) IntKind.u64.bits = k := by show min k 64 = k; omega
      rw [this]
    rw [if_neg q, if_pos g3, es, er, g6, and_mask low k (by omega) ⟨l0, by omega⟩, e1, h3, IntWalk.u64_in _ ⟨by omega, by omega⟩]
    by_cases q2 : x * 2 ^ (32 - k) + low / 2 ^ k > 4611686018427387904
    · rw [if_pos q2, if_pos q2]
    · rw [if_neg q2, if_neg q2]
theorem ref_scale {t r n d : Int} (S : Sp n d) (ht : U64 t) (r0 : 0 ≤ r) (r1 : r < d) (K : Nat) : tikref1_Scale.f (K + 30) t r n d = some (scaleV t r n d) := by
  have hm : tikref1_May.f n d = some true := (ref_may n d ⟨S.n0, by have := S.n1; omega⟩ ⟨by have := S.d1; omega, by have := S.d2; omega⟩).trans S.may
  have hn0 := S.n0
  have hn1 := S.n1
  have hd2 := S.d2
  obtain ⟨k, hk, rfl, _⟩ := may_pow S.may (by have := S.d1; omega)
  have p1 : 0 ≤ t % 4294967296 * n := Int.mul_nonneg (by omega) hn0
  have p2 : t % 4294967296 * n ≤ 4294967295 * 1073741824 := Int.mul_le_mul (by omega) hn1 hn0 (by omega)
  have p3 : 0 ≤ t / 4294967296 * n := Int.mul_nonneg (by have := ht.1; omega) hn0
  have p4 : t / 4294967296 * n ≤ 4294967295 * 1073741824 := Int.mul_le_mul (by have := ht.2; omega) hn1 hn0 (by omega)
  have e0 : t * n = t / 4294967296 * n * 4294967296 + t % 4294967296 * n := by
    have : t = t / 4294967296 * 4294967296 + t % 4294967296 := by omega
    calc t * n = (t / 4294967296 * 4294967296 + t % 4294967296) * n := by rw [← this]
      _ = _ := by rw [Int.add_mul, Int.mul_assoc, Int.mul_comm 4294967296 n, ← Int.mul_assoc]
  unfold tikref1_Scale.f
  rw [hm, Option.bind_some, if_pos rfl, decide_eq_false (show ¬ r ≥ 2 ^ k by omega), show K + 30 = (K + 28 - k + 1 + k) + 1 by omega, tikref1_Scale.j0, if_neg (show ¬ (false = true) by decide)]
  have em : Go.bits .and .u64 t 4294967295 = t % 4294967296 := and_mask t 32 (by omega) ht
  rw [em]
  unfold scaleV
  rw [e0]
  generalize t % 4294967296 * n = A at *
  generalize t / 4294967296 * n = B at *
  clear em e0 hm S
  have w1 : IntKind.u64.wrap A = A := IntWalk.u64_in _ ⟨p1, by omega⟩
  have w2 : IntKind.u64.wrap (A + r) = A + r := IntWalk.u64_in _ ⟨by omega, by clear w1; omega⟩
  have w3 : IntKind.u64.wrap B = B := IntWalk.u64_in _ ⟨p3, by clear w1 w2; omega⟩
  have w4 : IntKind.u64.wrap (B + (A + r) / 4294967296) = B + (A + r) / 4294967296 := IntWalk.u64_in _ ⟨by clear w1 w2 w3; omega, by clear w1 w2 w3; omega⟩
  have em2 : Go.bits .and .u64 (A + r) 4294967295 = (A + r) % 4294967296 := and_mask (A + r) 32 (by omega) ⟨by clear w1 w2 w3 w4; omega, by clear w1 w2 w3 w4; omega⟩
  rw [w1, w2, w3, w4, em2]
  clear w1 w2 w3 w4 em2
  have l := ref_loop (B + (A + r) / 4294967296) ((A + r) % 4294967296) n k hk (K + 28 - k) k 0 (by omega)
  refine l.trans ?_
  rw [ref_fin k hk _ _ n (by omega) (by omega) (by omega)]
  have : (B + (A + r) / 4294967296) * 4294967296 + (A + r) % 4294967296 = B * 4294967296 + A + r := by omega
  rw [this]
end Go.Proofs.YtlgfmmkabnbllaaDoor.Hand
namespace Go.Proofs.YtlgfmmkabnbllaaDoor.Hand
open Go.RowKit Go.Proofs.YtlgfmmkabnbllaaDoorW.PrintWords Go.Proofs.YtlgfmmkabnbllaaDoorW.PrintLast Go.Proofs.YtlgfmmkabnbllaaDoorW.PrintMore Go.Proofs.YtlgfmmkabnbllaaDoor.PA Go.Proofs.YtlgfmmkabnbllaaDoor.PB Go.Proofs.YtlgfmmkabnbllaaDoor.PC Go.Proofs.YtlgfmmkabnbllaaDoor.PD Go.Proofs.YtlgfmmkabnbllaaDoor.PK
set_option linter.unusedSimpArgs false
set_option linter.unusedVariables false
theorem rest_in2 {R d d2 : Int} (r0 : 0 ≤ R) (r1 : R < d) (h2 : 1 ≤ d2) : 0 ≤ R * d2 / d ∧ R * d2 / d < d2 := by
  have hd : 0 < d := by omega
  refine ⟨Int.ediv_nonneg (Int.mul_nonneg r0 (by omega)) (by omega), ?_⟩
  apply Int.ediv_lt_of_lt_mul hd
  rw [Int.mul_comm d2 d]
  exact Int.mul_lt_mul_of_pos_right r1 (by omega)
structure CI (s P R n d : Int) : Prop where
  S : Sp n d
  T : St s P R d
  J : P = 4611686018427387904 → R = 0
theorem atV_J {s P R n d t : Int} (I : CI s P R n d) : (atV s P R n d t).1 = 4611686018427387904 → (atV s P R n d t).2 = 0 := by
  unfold atV
  by_cases h : t ≤ s
  · rw [if_pos h]; exact I.J
  · rw [if_neg h]
    have := I.T.p1
    by_cases q : ((t - s) * n + R) / d ≥ 4611686018427387904 - P
    · rw [if_pos q]; intro _; rfl
    · rw [if_neg q]; intro hh
      have hh : P + ((t - s) * n + R) / d = 4611686018427387904 := hh
      omega
theorem rat_any {s P R n d t : Int} (I : CI s P R n d) (ht : U64 t) (K : Nat) : tikref22_Clock_at.f (K + 30) s P R n d t = some ((atV s P R n d t).1, (atV s P R n d t).2, s, P, R, n, d) := by
  obtain ⟨S, ⟨a, b, c, e, f, g⟩, J⟩ := I
  unfold tikref22_Clock_at.f atV
  by_cases h : t > s
  · rw [if_pos h, if_neg (show ¬ t ≤ s by omega), IntWalk.u64_in (t - s) (by have := ht.2; have := ht.1; omega), ref_scale S ⟨by omega, by have := ht.2; omega⟩ f g, Option.bind_some]
    have hN : 0 ≤ (t - s) * n + R := by have := Int.mul_nonneg (show 0 ≤ t - s by omega) S.n0; omega
    have hX : 0 ≤ ((t - s) * n + R) / d := Int.ediv_nonneg hN (by have := S.d1; omega)
    unfold scaleV
    generalize ((t - s) * n + R) / d = X at *
    generalize ((t - s) * n + R) % d = Y at *
    by_cases q : X > 4611686018427387904
    · rw [if_pos q, if_pos (show X ≥ 4611686018427387904 - P by omega)]
      rfl
    · rw [if_neg q, IntWalk.u64_in (4611686018427387904 - P) (by omega)]
      by_cases q2 : X ≥ 4611686018427387904 - P
      · refine (if_pos rfl).trans ((if_pos q2).trans ?_)
        rw [if_pos q2]
      · refine (if_pos rfl).trans ((if_neg q2).trans ?_)
        rw [if_neg q2]
        show some (IntKind.u64.wrap (P + X), Y, s, P, R, n, d) = _
        rw [IntWalk.u64_in (P + X) (by omega)]
  · rw [if_neg h, if_pos (show t ≤ s by omega), ref_scale S ⟨by omega, by omega⟩ f g, Option.bind_some]
    unfold scaleV
    have e1 : (0 * n + R) / d = 0 := by rw [Int.zero_mul, Int.zero_add]; exact Int.ediv_eq_zero_of_lt f g
    have e2 : (0 * n + R) % d = R := by rw [Int.zero_mul, Int.zero_add]; exact Int.emod_eq_of_lt f g
    rw [e1, e2, if_neg (show ¬ (0 : Int) > 4611686018427387904 by omega), IntWalk.u64_in (4611686018427387904 - P) (by omega)]
    refine (if_pos rfl).trans ?_
    by_cases q : P = 4611686018427387904
    · refine (if_pos (show (0 : Int) ≥ 4611686018427387904 - P by omega)).trans ?_
      rw [J q, q]
    · refine (if_neg (show ¬ (0 : Int) ≥ 4611686018427387904 - P by omega)).trans ?_
      show some (IntKind.u64.wrap (P + 0), R, s, P, R, n, d) = _
      rw [IntWalk.u64_in (P + 0) (by omega), Int.add_zero]
theorem rGo_any {s P R n d t : Int} (I : CI s P R n d) (ht : U64 t) (K : Nat) : tikref22_Clock_Go.f (K + 30) s P R n d t = some ((atV s P R n d t).1, if t > s then t else s, (atV s P R n d t).1, (atV s P R n d t).2, n, d) := by
  unfold tikref22_Clock_Go.f
  by_cases h : t ≥ s
  · rw [if_pos h, rat_any I ht K, Option.bind_some]
    have : (if t > s then t else s) = t := by
      by_cases q : t > s
      · exact if_pos q
      · rw [if_neg q]; omega
    rw [this]
  · rw [if_neg h, if_neg (show ¬ t > s by omega)]
    have : atV s P R n d t = (P, R) := if_pos (by omega)
    rw [this]
theorem turn_both {s P R n d t n2 d2 : Int} (I : CI s P R n d) (ht : U64 t) (hn2 : U64 n2) (hd2 : U64 d2) : ∃ e s' P' R' n' d', (∀ K, clock_Clock_Turn.f (K + 1) s P R n d t n2 d2 = some (e, s', P', R', n', d')) ∧ (∀ K, tikref22_Clock_Turn.f (K + 30) s P R n d t n2 d2 = some (e, s', P', R', n', d')) ∧ CI s' P' R' n' d' := by
  have hm := ref_may n2 d2 hn2 hd2
  cases hM : rate_May.f n2 d2 with
  | none => exact absurd hM (may_some n2 d2)
  | some b =>
    rw [hM] at hm
    by_cases h1 : t > 4611686018427387904
    · refine ⟨1, s, P, R, n, d, fun K => ?_, fun K => ?_, I⟩
      · unfold clock_Clock_Turn.f
        rw [hM, Option.bind_some, decide_eq_true h1, ite_self, clock_Clock_Turn.j0]; rfl
      · unfold tikref22_Clock_Turn.f
        rw [if_pos h1]
    · cases b with
      | false =>
        refine ⟨1, s, P, R, n, d, fun K => ?_, fun K => ?_, I⟩
        · unfold clock_Clock_Turn.f
          rw [hM, Option.bind_some, if_neg (show ¬ (false = true) by decide), clock_Clock_Turn.j0]; rfl
        · unfold tikref22_Clock_Turn.f
          rw [if_neg h1, hm, Option.bind_some, if_neg (show ¬ (false = true) by decide)]
      | true =>
        have S2 := sp_of hM hn2.1 hd2.1
        have hI := (atV_inv I.S I.T ht).1
        have hd := I.S.d1
        have hd' := I.S.d2
        have r := rest_in2 hI.r0 hI.r1 S2.d1
        refine ⟨_, _, _, _, _, _, fun K => turn_any I.S S2 I.T ht.1 (by omega) K, fun K => ?_, S2, ⟨?_, ?_, hI.p0, hI.p1, r.1, r.2⟩, fun h => ?_⟩
        · have hp0 : 0 ≤ (atV s P R n d t).2 * d2 := Int.mul_nonneg hI.r0 (by have := S2.d1; omega)
          have hp1 : (atV s P R n d t).2 * d2 ≤ 1048576 * 1048576 := Int.mul_le_mul (by have := hI.r1; omega) S2.d2 (by have := S2.d1; omega) (by omega)
          unfold tikref22_Clock_Turn.f
          rw [if_neg h1, hm, Option.bind_some, if_pos rfl, rGo_any I ht K, Option.bind_some]
          refine (if_neg (show ¬ d = 0 by omega)).trans ?_
          show some ((0 : Int), _, _, IntKind.u64.wrap (Int.tdiv (IntKind.u64.wrap ((atV s P R n d t).2 * d2)) d), n2, d2) = _
          generalize (atV s P R n d t).2 * d2 = M at *
          rw [IntWalk.u64_in M ⟨hp0, by omega⟩, Int.tdiv_eq_ediv_of_nonneg hp0]
          have q1 : 0 ≤ M / d := Int.ediv_nonneg hp0 (by omega)
          have q2 : M / d ≤ M := Int.ediv_le_self d hp0
          rw [IntWalk.u64_in (M / d) ⟨q1, by omega⟩]
        · have := ht.1; have := I.T.s0; split <;> omega
        · have := ht.2; have := I.T.s1; split <;> omega
        · rw [atV_J I h, Int.zero_mul, Int.zero_ediv]
end Go.Proofs.YtlgfmmkabnbllaaDoor.Hand
namespace Go.Proofs.YtlgfmmkabnbllaaDoor.Hand
open Go.RowKit Go.Proofs.YtlgfmmkabnbllaaDoorW.PrintWords Go.Proofs.YtlgfmmkabnbllaaDoorW.PrintLast Go.Proofs.YtlgfmmkabnbllaaDoorW.PrintMore Go.Proofs.YtlgfmmkabnbllaaDoor.PA Go.Proofs.YtlgfmmkabnbllaaDoor.PB Go.Proofs.YtlgfmmkabnbllaaDoor.PC
set_option linter.unusedSimpArgs false
set_option linter.unusedVariables false
set_option exponentiation.threshold 3000
theorem pop21o : ∀ k : Fin 21, bits_OnesCount64.f ((2 : Int) ^ k.val) = some 1 ∧ IntKind.u64.wrap (1024 * (2 : Int) ^ k.val) = 1024 * (2 : Int) ^ k.val := by decide +kernel
theorem and_oneo (n : Int) (hn : U64 n) : Go.bits .and .u64 n 1 = n % 2 := by
  obtain ⟨x, rfl⟩ := Int.eq_ofNat_of_zero_le hn.1
  have := u64_and_nat x 1 (by have := hn.2; omega) (by decide)
  refine this.trans ?_
  rw [Nat.and_one_is_mod]; omega
theorem may_yes {m k : Nat} (hk : k ≤ 20) (hm : m ≤ 1024 * 2 ^ k) (odd : k = 0 ∨ m % 2 = 1) : rate_May.f (m : Int) (2 ^ k) = some true := by
  obtain ⟨p1, p2⟩ := pow_20 k hk
  obtain ⟨f1, f3⟩ := pop21o ⟨k, by omega⟩
  dsimp only at f1 f3
  have p3 : (2 : Nat) ^ k ≤ 2 ^ 20 := Nat.pow_le_pow_right (by decide) hk
  have p4 : (2 : Nat) ^ 20 = 1048576 := by decide
  have hm2 : (m : Int) ≤ 1024 * 2 ^ k := by
    have : ((1024 * 2 ^ k : Nat) : Int) = 1024 * 2 ^ k := by rw [Int.natCast_mul, Int.natCast_pow]; rfl
    omega
  unfold rate_May.f
  rw [f1, Option.bind_some, if_pos rfl, if_pos p2, f3, if_pos hm2, and_oneo _ ⟨by omega, by omega⟩]
  by_cases q : (2 : Int) ^ k = 1
  · rw [if_pos q]
  · rw [if_neg q]
    rcases odd with h | h
    · subst h; exact absurd rfl q
    · have : ((m : Int) % 2 == 1) = true := beq_iff_eq.mpr (by omega)
      rw [this]
theorem of_sp {x : Nat} {n d : Int} (h : ofV x = (n, d, 0)) : Sp n d := by
  unfold ofV at h
  by_cases h1 : nanB x = true
  · rw [if_pos h1] at h; simp at h
  rw [if_neg h1] at h
  by_cases h2 : 9223372036854775808 ≤ x
  · rw [if_pos h2] at h; simp at h
  rw [if_neg h2] at h
  by_cases h3 : 4652218415073722368 < x
  · rw [if_pos h3] at h; simp at h
  rw [if_neg h3] at h
  by_cases h4 : nOf x = 0 ∧ 0 < x
  · rw [if_pos h4] at h; simp at h
  rw [if_neg h4] at h
  obtain ⟨k, hk, ek, hm, odd, _⟩ := least_parts (nOf_le (r := x) (by omega))
  rw [ek] at h
  generalize nOf x / 2 ^ byOf (nOf x) = m at *
  simp only [Prod.mk.injEq] at h
  obtain ⟨rfl, rfl, _⟩ := h
  have := pow_20 k hk
  exact sp_of (may_yes hk hm odd) (by omega) (by omega)
theorem of_cases (x : Nat) : (∃ n d, ofV x = (n, d, 0) ∧ Sp n d) ∨ ∃ n d e, ofV x = (n, d, e) ∧ e ≠ 0 := by
  obtain ⟨n, d, e, h⟩ : ∃ a b c, ofV x = (a, b, c) := ⟨_, _, _, rfl⟩
  by_cases q : e = 0
  · subst q; exact .inl ⟨n, d, h, of_sp h⟩
  · exact .inr ⟨n, d, e, h, q⟩
end Go.Proofs.YtlgfmmkabnbllaaDoor.Hand
namespace Go.Proofs.YtlgfmmkabnbllaaDoor.PE
open Go.RowKit Go.Proofs.YtlgfmmkabnbllaaDoorW.PrintWords Go.Proofs.YtlgfmmkabnbllaaDoorW.PrintLast Go.Proofs.YtlgfmmkabnbllaaDoorW.PrintMore
attribute [local go_sem] max2_int min2_int max_two min_two max_three min_three max_four min_four
open Go.Proofs.YtlgfmmkabnbllaaDoor.Hand
open Go.Proofs.YtlgfmmkabnbllaaDoor.PD
set_option linter.unusedVariables false
set_option linter.unusedSimpArgs false
def errW : Option Int → Value
  | none => .nilIface
  | some c => .iface 0 (.int .i64 c)
theorem errW_none : errW none = .nilIface := rfl
theorem errW_some (c : Int) : errW (some c) = .iface 0 (.int .i64 c) := rfl
end Go.Proofs.YtlgfmmkabnbllaaDoor.PE
namespace Go.Proofs.YtlgfmmkabnbllaaDoor.PE
open Go.RowKit Go.Proofs.YtlgfmmkabnbllaaDoorW.PrintWords Go.Proofs.YtlgfmmkabnbllaaDoorW.PrintLast Go.Proofs.YtlgfmmkabnbllaaDoorW.PrintMore
attribute [local go_sem] max2_int min2_int max_two min_two max_three min_three max_four min_four
open Go.Proofs.YtlgfmmkabnbllaaDoor.Hand
open Go.Proofs.YtlgfmmkabnbllaaDoor.PD
set_option linter.unusedVariables false
set_option linter.unusedSimpArgs false
mutual
def tikref1_Of.j0 : Nat → Int → Int → Option (Int × Int × Int)
  | 0, _, _ => none
  | k + 1, x5, x6 => if (wrap64 ((wrap64 (1075 - x6)) - 20)) > 60 then (some (0, 0, 1)) else (if 0 ≤ (IntKind.u64.wrap (wrap64 ((wrap64 (1075 - x6)) - 20))) then (if 0 ≤ (IntKind.u64.wrap (wrap64 ((wrap64 ((wrap64 (1075 - x6)) - 20)) - 1))) then (if (Go.bits .and .u64 x5 (IntKind.u64.wrap ((shl .u64 1 (IntKind.u64.wrap (wrap64 ((wrap64 (1075 - x6)) - 20)))) - 1))) > (shl .u64 1 (IntKind.u64.wrap (wrap64 ((wrap64 ((wrap64 (1075 - x6)) - 20)) - 1)))) then (tikref1_Of.j1 k (shr .u64 x5 (IntKind.u64.wrap (wrap64 ((wrap64 (1075 - x6)) - 20)))) true) else (if (Go.bits .and .u64 x5 (IntKind.u64.wrap ((shl .u64 1 (IntKind.u64.wrap (wrap64 ((wrap64 (1075 - x6)) - 20)))) - 1))) = (shl .u64 1 (IntKind.u64.wrap (wrap64 ((wrap64 ((wrap64 (1075 - x6)) - 20)) - 1)))) then (tikref1_Of.j1 k (shr .u64 x5 (IntKind.u64.wrap (wrap64 ((wrap64 (1075 - x6)) - 20)))) ((Int.tmod (shr .u64 x5 (IntKind.u64.wrap (wrap64 ((wrap64 (1075 - x6)) - 20)))) 2) == 1)) else (tikref1_Of.j1 k (shr .u64 x5 (IntKind.u64.wrap (wrap64 ((wrap64 (1075 - x6)) - 20)))) false))) else (none)) else (none))
def tikref1_Of.j1 : Nat → Int → Bool → Option (Int × Int × Int)
  | 0, _, _ => none
  | k + 1, x8, x72 => if x72 = true then (if (IntKind.u64.wrap (x8 + 1)) = 0 then (some (0, 0, 1)) else ((tikref1_least.f k (IntKind.u64.wrap (x8 + 1))).bind fun bt103 => (some (bt103.1, bt103.2, 0)))) else (if x8 = 0 then (some (0, 0, 1)) else ((tikref1_least.f k x8).bind fun bt105 => (some (bt105.1, bt105.2, 0))))
end
def tikref1_Of.f (k : Nat) (a0 : Nat) : Option (Int × Int × Int) := (tikref1_isNaN.f ((a0 : Nat) : Int)).bind fun t102 => (if t102 = true then (some (0, 0, 10)) else (if (((a0 : Nat) : Int) / 9223372036854775808) = 1 then (some (0, 0, 11)) else (if ((a0 : Nat) : Int) = 0 then (some (0, 1, 0)) else (if ((a0 : Nat) : Int) > 4652218415073722368 then (some (0, 0, 1)) else (if (wrap64 (((a0 : Nat) : Int) / 4503599627370496)) > 0 then (tikref1_Of.j0 k (Go.bits .or .u64 (Go.bits .and .u64 ((a0 : Nat) : Int) 4503599627370495) 4503599627370496) (wrap64 (((a0 : Nat) : Int) / 4503599627370496))) else (tikref1_Of.j0 k (Go.bits .and .u64 ((a0 : Nat) : Int) 4503599627370495) 1))))))
set_option maxHeartbeats 8000000 in
set_option maxRecDepth 100000 in
theorem tikref1_Of.calls (k : Nat) (a0 : Nat) (r1 : Int) (r2 : Int) (r3 : Int) (w : World) (h : tikref1_Of.f k a0 = some (r1, r2, r3)) :
    Calls Tryd.prog 86 #[.float .f64 a0] w fun e w' => e = .returned (.tuple #[.agg #[.int .u64 r1, .int .u64 r2], .int .i64 r3]) ∧ Below w.heap.size w w' := by
  have hu39 := Tryd.underlying39
  have HB := Aside0.mk (Below.refl w.heap.size w)
  have H : ((tikref1_isNaN.f ((a0 : Nat) : Int)).bind fun t102 => (if t102 = true then (some (0, 0, 10)) else (if (((a0 : Nat) : Int) / 9223372036854775808) = 1 then (some (0, 0, 11)) else (if ((a0 : Nat) : Int) = 0 then (some (0, 1, 0)) else (if ((a0 : Nat) : Int) > 4652218415073722368 then (some (0, 0, 1)) else (if (wrap64 (((a0 : Nat) : Int) / 4503599627370496)) > 0 then (tikref1_Of.j0 k (Go.bits .or .u64 (Go.bits .and .u64 ((a0 : Nat) : Int) 4503599627370495) 4503599627370496) (wrap64 (((a0 : Nat) : Int) / 4503599627370496))) else (tikref1_Of.j0 k (Go.bits .and .u64 ((a0 : Nat) : Int) 4503599627370495) 1))))))) = some (r1, r2, r3) := h
  clear h
  replace H := Option.bind_eq_some_iff.mp H
  obtain ⟨t102, A20, H⟩ := H
  replace H : (if t102 = true then (some (0, 0, 10)) else (if (((a0 : Nat) : Int) / 9223372036854775808) = 1 then (some (0, 0, 11)) else (if ((a0 : Nat) : Int) = 0 then (some (0, 1, 0)) else (if ((a0 : Nat) : Int) > 4652218415073722368 then (some (0, 0, 1)) else (if (wrap64 (((a0 : Nat) : Int) / 4503599627370496)) > 0 then (tikref1_Of.j0 k (Go.bits .or .u64 (Go.bits .and .u64 ((a0 : Nat) : Int) 4503599627370495) 4503599627370496) (wrap64 (((a0 : Nat) : Int) / 4503599627370496))) else (tikref1_Of.j0 k (Go.bits .and .u64 ((a0 : Nat) : Int) 4503599627370495) 1)))))) = some (r1, r2, r3) := H
  have A2 := Aside0.mk A20
  clear A20
  by_cases c3 : t102 = true
  · subst c3
    have H1 : (some (0, 0, 10)) = some (r1, r2, r3) := by rw [if_pos rfl] at H; exact H
    clear H
    have H := H1
    clear H1
    simp only [Option.some.injEq, Prod.mk.injEq] at H
    obtain ⟨rfl, rfl, rfl⟩ := H
    go_enter Tryd.func86, Tryd.ntmps86
    go_wp2_with (first | simp only [bits_run] | ((with_reducible refine gate_dst (N := 2) rfl ?_); refine box_event ?hg (N := 2) ?hd (cs := #[.int .u64 0, .int .u64 0]) (t := 39) ?hr ?_; (case hd => rfl); (case hg => rfl); (case hr => first | (go_simp; done) | (go_simp; rfl)); intro gb101 hg w4 hbox hb; have n0_ := Aside0.mk (below_step (by repeat (first | (with_reducible first | exact HB.out | apply below_alloc | apply pw_below_drewN | apply below_drew1) | exact HB.out)) hb); have n1_ := Aside0.mk (hbox); have n2_ := Aside0.mk ((by rw [hg]; exact (below_size (by repeat (first | (with_reducible first | exact HB.out | apply below_alloc | apply pw_below_drewN | apply below_drew1) | exact HB.out))) : w.heap.size ≤ gb101)); have n3_ := Aside0.mk ((by rw [hg]; exact (below_size (by repeat (first | (with_reducible first | exact HB.out | apply below_alloc | apply pw_below_drewN | apply below_drew1) | exact HB.out))) : w.heap.size ≤ gb101)); clear HB; have HB := n0_; have BK101 := n1_; have GW101 := n2_; have GE101 := n3_; clear n0_ n1_ n2_ n3_; clear hb hbox hg) | ((with_reducible refine gate_callee (f := 107) rfl ?_); refine goesL_ (some 15) rfl rfl Tryd.func107 (by kernel_rfl) rfl #[.int .u64 ((a0 : Nat) : Int)] rfl (by (try simp only [List.map_toArray, List.map_cons, List.map_nil]); first | done | rfl | (simp only [List.length_drop, List.length_take]; rfl)) ?_; (with_reducible refine (tikref1_isNaN.calls ((a0 : Nat) : Int) true _ A2.out).mono ?_); rintro e w' ⟨rfl, ⟨nd, rfl⟩⟩; refine ⟨_, rfl, ?_⟩; (try (rw [drewN_self w4]; generalize hq_ : World.drewN w4 _ = w4; have n0_ : Aside0 (w4.heap[gb101]? = some (.cells #[.int .u64 0, .int .u64 0] 39 (0, 0))) := ⟨by rw [← hq_]; exact (by (with_reducible repeat (first | refine blk_drewN ?_ _ | refine blk_drew ?_ | refine blk_alloc ?_ _)); exact BK101.out)⟩; have n1_ : Aside0 (Below w.heap.size w w4) := ⟨by rw [← hq_]; exact (by repeat (first | (with_reducible first | exact HB.out | apply below_alloc | apply pw_below_drewN | apply below_drew1 | refine below_set ?_ GE101.out) | exact HB.out))⟩; clear BK101 HB hq_; have BK101 := n0_; have HB := n1_; clear n0_ n1_)); have hcz5_0 : w4.cell? ⟨gb101, 0, none⟩ = some (.int .u64 0) := (blk_cell BK101.out 0).trans rfl; have hcz5_1 : w4.cell? ⟨gb101, 1, none⟩ = some (.int .u64 0) := (blk_cell BK101.out 1).trans rfl; have hfz5_0 := blk_frozen BK101.out 0; have hfz5_1 := blk_frozen BK101.out 1))
    refine bodyPost_ret (results_ct rfl _ _ gb101 39 #[.int .u64 0, .int .u64 0] (0, 0) _ rfl (by (with_reducible repeat (first | refine blk_drewN ?_ _ | refine blk_drew ?_ | refine blk_alloc ?_ _)); refine blk_put (cs := #[.int .u64 0, .int .u64 0]) ?_ 1 _ rfl; (with_reducible repeat (first | refine blk_drewN ?_ _ | refine blk_drew ?_ | refine blk_alloc ?_ _)); refine blk_put (cs := #[.int .u64 0, .int .u64 0]) ?_ 0 _ rfl; (with_reducible repeat (first | refine blk_drewN ?_ _ | refine blk_drew ?_ | refine blk_alloc ?_ _)); exact BK101.out) Tryd.underlying39 rfl (by kernel_rfl)) rfl ?_
    exact ⟨by first | rfl | (simp [errW_none, errW_some] <;> rfl) | (simp [*, errW_none, errW_some] <;> rfl), by repeat (first | (with_reducible first | exact HB.out | apply below_alloc | apply pw_below_drewN | apply below_drew1 | refine below_set ?_ GE101.out) | exact HB.out)⟩
  · replace c3 := Bool.eq_false_iff.mpr c3
    subst c3
    have H1 : (if (((a0 : Nat) : Int) / 9223372036854775808) = 1 then (some (0, 0, 11)) else (if ((a0 : Nat) : Int) = 0 then (some (0, 1, 0)) else (if ((a0 : Nat) : Int) > 4652218415073722368 then (some (0, 0, 1)) else (if (wrap64 (((a0 : Nat) : Int) / 4503599627370496)) > 0 then (tikref1_Of.j0 k (Go.bits .or .u64 (Go.bits .and .u64 ((a0 : Nat) : Int) 4503599627370495) 4503599627370496) (wrap64 (((a0 : Nat) : Int) / 4503599627370496))) else (tikref1_Of.j0 k (Go.bits .and .u64 ((a0 : Nat) : Int) 4503599627370495) 1))))) = some (r1, r2, r3) := by rw [if_neg (show ¬ (false = true) by decide)] at H; exact H
    clear H
    have H := H1
    clear H1
    by_cases c6 : (((a0 : Nat) : Int) / 9223372036854775808) = 1
    · rw [if_pos c6] at H
      have c6b0 : ((((a0 : Nat) : Int) / 9223372036854775808) == 1) = true := beq_iff_eq.mpr c6
      have c6b1 : ((((a0 : Nat) : Int) / 9223372036854775808) != 1) = false := bne_eq_false_iff_eq.mpr c6
      clear c6
      simp only [Option.some.injEq, Prod.mk.injEq] at H
      obtain ⟨rfl, rfl, rfl⟩ := H
      go_enter Tryd.func86, Tryd.ntmps86
      go_wp2_with (first | simp only [bits_run] | ((with_reducible refine gate_dst (N := 2) rfl ?_); refine box_event ?hg (N := 2) ?hd (cs := #[.int .u64 0, .int .u64 0]) (t := 39) ?hr ?_; (case hd => rfl); (case hg => rfl); (case hr => first | (go_simp; done) | (go_simp; rfl)); intro gb101 hg w7 hbox hb; have n0_ := Aside0.mk (below_step (by repeat (first | (with_reducible first | exact HB.out | apply below_alloc | apply pw_below_drewN | apply below_drew1) | exact HB.out)) hb); have n1_ := Aside0.mk (hbox); have n2_ := Aside0.mk ((by rw [hg]; exact (below_size (by repeat (first | (with_reducible first | exact HB.out | apply below_alloc | apply pw_below_drewN | apply below_drew1) | exact HB.out))) : w.heap.size ≤ gb101)); have n3_ := Aside0.mk ((by rw [hg]; exact (below_size (by repeat (first | (with_reducible first | exact HB.out | apply below_alloc | apply pw_below_drewN | apply below_drew1) | exact HB.out))) : w.heap.size ≤ gb101)); clear HB; have HB := n0_; have BK101 := n1_; have GW101 := n2_; have GE101 := n3_; clear n0_ n1_ n2_ n3_; clear hb hbox hg) | ((with_reducible refine gate_callee (f := 107) rfl ?_); refine goesL_ (some 15) rfl rfl Tryd.func107 (by kernel_rfl) rfl #[.int .u64 ((a0 : Nat) : Int)] rfl (by (try simp only [List.map_toArray, List.map_cons, List.map_nil]); first | done | rfl | (simp only [List.length_drop, List.length_take]; rfl)) ?_; (with_reducible refine (tikref1_isNaN.calls ((a0 : Nat) : Int) false _ A2.out).mono ?_); rintro e w' ⟨rfl, ⟨nd, rfl⟩⟩; refine ⟨_, rfl, ?_⟩; (try (rw [drewN_self w7]; generalize hq_ : World.drewN w7 _ = w7; have n0_ : Aside0 (w7.heap[gb101]? = some (.cells #[.int .u64 0, .int .u64 0] 39 (0, 0))) := ⟨by rw [← hq_]; exact (by (with_reducible repeat (first | refine blk_drewN ?_ _ | refine blk_drew ?_ | refine blk_alloc ?_ _)); exact BK101.out)⟩; have n1_ : Aside0 (Below w.heap.size w w7) := ⟨by rw [← hq_]; exact (by repeat (first | (with_reducible first | exact HB.out | apply below_alloc | apply pw_below_drewN | apply below_drew1 | refine below_set ?_ GE101.out) | exact HB.out))⟩; clear BK101 HB hq_; have BK101 := n0_; have HB := n1_; clear n0_ n1_)); have hcz8_0 : w7.cell? ⟨gb101, 0, none⟩ = some (.int .u64 0) := (blk_cell BK101.out 0).trans rfl; have hcz8_1 : w7.cell? ⟨gb101, 1, none⟩ = some (.int .u64 0) := (blk_cell BK101.out 1).trans rfl; have hfz8_0 := blk_frozen BK101.out 0; have hfz8_1 := blk_frozen BK101.out 1))
      refine bodyPost_ret (results_ct rfl _ _ gb101 39 #[.int .u64 0, .int .u64 0] (0, 0) _ rfl (by (with_reducible repeat (first | refine blk_drewN ?_ _ | refine blk_drew ?_ | refine blk_alloc ?_ _)); refine blk_put (cs := #[.int .u64 0, .int .u64 0]) ?_ 1 _ rfl; (with_reducible repeat (first | refine blk_drewN ?_ _ | refine blk_drew ?_ | refine blk_alloc ?_ _)); refine blk_put (cs := #[.int .u64 0, .int .u64 0]) ?_ 0 _ rfl; (with_reducible repeat (first | refine blk_drewN ?_ _ | refine blk_drew ?_ | refine blk_alloc ?_ _)); exact BK101.out) Tryd.underlying39 rfl (by kernel_rfl)) rfl ?_
      exact ⟨by first | rfl | (simp [errW_none, errW_some] <;> rfl) | (simp [*, errW_none, errW_some] <;> rfl), by repeat (first | (with_reducible first | exact HB.out | apply below_alloc | apply pw_below_drewN | apply below_drew1 | refine below_set ?_ GE101.out) | exact HB.out)⟩
    · rw [if_neg c6] at H
      have c6b0 : ((((a0 : Nat) : Int) / 9223372036854775808) == 1) = false := beq_eq_false_iff_ne.mpr c6
      have c6b1 : ((((a0 : Nat) : Int) / 9223372036854775808) != 1) = true := bne_iff_ne.mpr c6
      by_cases c9 : ((a0 : Nat) : Int) = 0
      · rw [if_pos c9] at H
        have c9b0 : (((a0 : Nat) : Int) == 0) = true := beq_iff_eq.mpr c9
        have c9b1 : (((a0 : Nat) : Int) != 0) = false := bne_eq_false_iff_eq.mpr c9
        clear c9
        simp only [Option.some.injEq, Prod.mk.injEq] at H
        obtain ⟨rfl, rfl, rfl⟩ := H
        go_enter Tryd.func86, Tryd.ntmps86
        go_wp2_with (first | simp only [bits_run] | ((with_reducible refine gate_dst (N := 2) rfl ?_); refine box_event ?hg (N := 2) ?hd (cs := #[.int .u64 0, .int .u64 0]) (t := 39) ?hr ?_; (case hd => rfl); (case hg => rfl); (case hr => first | (go_simp; done) | (go_simp; rfl)); intro gb101 hg w10 hbox hb; have n0_ := Aside0.mk (below_step (by repeat (first | (with_reducible first | exact HB.out | apply below_alloc | apply pw_below_drewN | apply below_drew1) | exact HB.out)) hb); have n1_ := Aside0.mk (hbox); have n2_ := Aside0.mk ((by rw [hg]; exact (below_size (by repeat (first | (with_reducible first | exact HB.out | apply below_alloc | apply pw_below_drewN | apply below_drew1) | exact HB.out))) : w.heap.size ≤ gb101)); have n3_ := Aside0.mk ((by rw [hg]; exact (below_size (by repeat (first | (with_reducible first | exact HB.out | apply below_alloc | apply pw_below_drewN | apply below_drew1) | exact HB.out))) : w.heap.size ≤ gb101)); clear HB; have HB := n0_; have BK101 := n1_; have GW101 := n2_; have GE101 := n3_; clear n0_ n1_ n2_ n3_; clear hb hbox hg) | ((with_reducible refine gate_callee (f := 107) rfl ?_); refine goesL_ (some 15) rfl rfl Tryd.func107 (by kernel_rfl) rfl #[.int .u64 ((a0 : Nat) : Int)] rfl (by (try simp only [List.map_toArray, List.map_cons, List.map_nil]); first | done | rfl | (simp only [List.length_drop, List.length_take]; rfl)) ?_; (with_reducible refine (tikref1_isNaN.calls ((a0 : Nat) : Int) false _ A2.out).mono ?_); rintro e w' ⟨rfl, ⟨nd, rfl⟩⟩; refine ⟨_, rfl, ?_⟩; (try (rw [drewN_self w10]; generalize hq_ : World.drewN w10 _ = w10; have n0_ : Aside0 (w10.heap[gb101]? = some (.cells #[.int .u64 0, .int .u64 0] 39 (0, 0))) := ⟨by rw [← hq_]; exact (by (with_reducible repeat (first | refine blk_drewN ?_ _ | refine blk_drew ?_ | refine blk_alloc ?_ _)); exact BK101.out)⟩; have n1_ : Aside0 (Below w.heap.size w w10) := ⟨by rw [← hq_]; exact (by repeat (first | (with_reducible first | exact HB.out | apply below_alloc | apply pw_below_drewN | apply below_drew1 | refine below_set ?_ GE101.out) | exact HB.out))⟩; clear BK101 HB hq_; have BK101 := n0_; have HB := n1_; clear n0_ n1_)); have hcz11_0 : w10.cell? ⟨gb101, 0, none⟩ = some (.int .u64 0) := (blk_cell BK101.out 0).trans rfl; have hcz11_1 : w10.cell? ⟨gb101, 1, none⟩ = some (.int .u64 0) := (blk_cell BK101.out 1).trans rfl; have hfz11_0 := blk_frozen BK101.out 0; have hfz11_1 := blk_frozen BK101.out 1))
        refine bodyPost_ret (results_ct rfl _ _ gb101 39 #[.int .u64 0, .int .u64 1] (0, 0) _ rfl (by (with_reducible repeat (first | refine blk_drewN ?_ _ | refine blk_drew ?_ | refine blk_alloc ?_ _)); refine blk_put (cs := #[.int .u64 0, .int .u64 0]) ?_ 1 _ rfl; (with_reducible repeat (first | refine blk_drewN ?_ _ | refine blk_drew ?_ | refine blk_alloc ?_ _)); refine blk_put (cs := #[.int .u64 0, .int .u64 0]) ?_ 0 _ rfl; (with_reducible repeat (first | refine blk_drewN ?_ _ | refine blk_drew ?_ | refine blk_alloc ?_ _)); exact BK101.out) Tryd.underlying39 rfl (by kernel_rfl)) rfl ?_
        exact ⟨by first | rfl | (simp [errW_none, errW_some] <;> rfl) | (simp [*, errW_none, errW_some] <;> rfl), by repeat (first | (with_reducible first | exact HB.out | apply below_alloc | apply pw_below_drewN | apply below_drew1 | refine below_set ?_ GE101.out) | exact HB.out)⟩
      · rw [if_neg c9] at H
        have c9b0 : (((a0 : Nat) : Int) == 0) = false := beq_eq_false_iff_ne.mpr c9
        have c9b1 : (((a0 : Nat) : Int) != 0) = true := bne_iff_ne.mpr c9
        by_cases c12 : ((a0 : Nat) : Int) > 4652218415073722368
        · rw [if_pos c12] at H
          have c12b0 : decide (4652218415073722368 < ((a0 : Nat) : Int)) = true := decide_eq_true c12
          clear c12
          simp only [Option.some.injEq, Prod.mk.injEq] at H
          obtain ⟨rfl, rfl, rfl⟩ := H
          go_enter Tryd.func86, Tryd.ntmps86
          go_wp2_with (first | simp only [bits_run] | ((with_reducible refine gate_dst (N := 2) rfl ?_); refine box_event ?hg (N := 2) ?hd (cs := #[.int .u64 0, .int .u64 0]) (t := 39) ?hr ?_; (case hd => rfl); (case hg => rfl); (case hr => first | (go_simp; done) | (go_simp; rfl)); intro gb101 hg w13 hbox hb; have n0_ := Aside0.mk (below_step (by repeat (first | (with_reducible first | exact HB.out | apply below_alloc | apply pw_below_drewN | apply below_drew1) | exact HB.out)) hb); have n1_ := Aside0.mk (hbox); have n2_ := Aside0.mk ((by rw [hg]; exact (below_size (by repeat (first | (with_reducible first | exact HB.out | apply below_alloc | apply pw_below_drewN | apply below_drew1) | exact HB.out))) : w.heap.size ≤ gb101)); have n3_ := Aside0.mk ((by rw [hg]; exact (below_size (by repeat (first | (with_reducible first | exact HB.out | apply below_alloc | apply pw_below_drewN | apply below_drew1) | exact HB.out))) : w.heap.size ≤ gb101)); clear HB; have HB := n0_; have BK101 := n1_; have GW101 := n2_; have GE101 := n3_; clear n0_ n1_ n2_ n3_; clear hb hbox hg) | ((with_reducible refine gate_callee (f := 107) rfl ?_); refine goesL_ (some 15) rfl rfl Tryd.func107 (by kernel_rfl) rfl #[.int .u64 ((a0 : Nat) : Int)] rfl (by (try simp only [List.map_toArray, List.map_cons, List.map_nil]); first | done | rfl | (simp only [List.length_drop, List.length_take]; rfl)) ?_; (with_reducible refine (tikref1_isNaN.calls ((a0 : Nat) : Int) false _ A2.out).mono ?_); rintro e w' ⟨rfl, ⟨nd, rfl⟩⟩; refine ⟨_, rfl, ?_⟩; (try (rw [drewN_self w13]; generalize hq_ : World.drewN w13 _ = w13; have n0_ : Aside0 (w13.heap[gb101]? = some (.cells #[.int .u64 0, .int .u64 0] 39 (0, 0))) := ⟨by rw [← hq_]; exact (by (with_reducible repeat (first | refine blk_drewN ?_ _ | refine blk_drew ?_ | refine blk_alloc ?_ _)); exact BK101.out)⟩; have n1_ : Aside0 (Below w.heap.size w w13) := ⟨by rw [← hq_]; exact (by repeat (first | (with_reducible first | exact HB.out | apply below_alloc | apply pw_below_drewN | apply below_drew1 | refine below_set ?_ GE101.out) | exact HB.out))⟩; clear BK101 HB hq_; have BK101 := n0_; have HB := n1_; clear n0_ n1_)); have hcz14_0 : w13.cell? ⟨gb101, 0, none⟩ = some (.int .u64 0) := (blk_cell BK101.out 0).trans rfl; have hcz14_1 : w13.cell? ⟨gb101, 1, none⟩ = some (.int .u64 0) := (blk_cell BK101.out 1).trans rfl; have hfz14_0 := blk_frozen BK101.out 0; have hfz14_1 := blk_frozen BK101.out 1))
          refine bodyPost_ret (results_ct rfl _ _ gb101 39 #[.int .u64 0, .int .u64 0] (0, 0) _ rfl (by (with_reducible repeat (first | refine blk_drewN ?_ _ | refine blk_drew ?_ | refine blk_alloc ?_ _)); refine blk_put (cs := #[.int .u64 0, .int .u64 0]) ?_ 1 _ rfl; (with_reducible repeat (first | refine blk_drewN ?_ _ | refine blk_drew ?_ | refine blk_alloc ?_ _)); refine blk_put (cs := #[.int .u64 0, .int .u64 0]) ?_ 0 _ rfl; (with_reducible repeat (first | refine blk_drewN ?_ _ | refine blk_drew ?_ | refine blk_alloc ?_ _)); exact BK101.out) Tryd.underlying39 rfl (by kernel_rfl)) rfl ?_
          exact ⟨by first | rfl | (simp [errW_none, errW_some] <;> rfl) | (simp [*, errW_none, errW_some] <;> rfl), by repeat (first | (with_reducible first | exact HB.out | apply below_alloc | apply pw_below_drewN | apply below_drew1 | refine below_set ?_ GE101.out) | exact HB.out)⟩
        · rw [if_neg c12] at H
          have c12b0 : decide (4652218415073722368 < ((a0 : Nat) : Int)) = false := decide_eq_false c12
          clear c12
          have HC15 := Aside0.mk H
          clear H
          go_enter Tryd.func86, Tryd.ntmps86
          go_upto_if 37 with (first | simp only [bits_run] | ((with_reducible refine gate_dst (N := 2) rfl ?_); refine box_event ?hg (N := 2) ?hd (cs := #[.int .u64 0, .int .u64 0]) (t := 39) ?hr ?_; (case hd => rfl); (case hg => rfl); (case hr => first | (go_simp; done) | (go_simp; rfl)); intro gb101 hg w16 hbox hb; have n0_ := Aside0.mk (below_step (by repeat (first | (with_reducible first | exact HB.out | apply below_alloc | apply pw_below_drewN | apply below_drew1) | exact HB.out)) hb); have n1_ := Aside0.mk (hbox); have n2_ := Aside0.mk ((by rw [hg]; exact (below_size (by repeat (first | (with_reducible first | exact HB.out | apply below_alloc | apply pw_below_drewN | apply below_drew1) | exact HB.out))) : w.heap.size ≤ gb101)); have n3_ := Aside0.mk ((by rw [hg]; exact (below_size (by repeat (first | (with_reducible first | exact HB.out | apply below_alloc | apply pw_below_drewN | apply below_drew1) | exact HB.out))) : w.heap.size ≤ gb101)); clear HB; have HB := n0_; have BK101 := n1_; have GW101 := n2_; have GE101 := n3_; clear n0_ n1_ n2_ n3_; clear hb hbox hg) | ((with_reducible refine gate_callee (f := 107) rfl ?_); refine goesL_ (some 15) rfl rfl Tryd.func107 (by kernel_rfl) rfl #[.int .u64 ((a0 : Nat) : Int)] rfl (by (try simp only [List.map_toArray, List.map_cons, List.map_nil]); first | done | rfl | (simp only [List.length_drop, List.length_take]; rfl)) ?_; (with_reducible refine (tikref1_isNaN.calls ((a0 : Nat) : Int) false _ A2.out).mono ?_); rintro e w' ⟨rfl, ⟨nd, rfl⟩⟩; refine ⟨_, rfl, ?_⟩))
          (try simp only [Act.put, List.setIfInBounds_toArray, List.set_cons_zero, List.set_cons_succ])
          go_cut [5, 6] (fun v5 v6 wc => ∃ (kq : Nat) (x5_14 : Int) (x6_14 : Int), v5 = .int .u64 x5_14 ∧ v6 = .int .i64 x6_14 ∧ Aside0 (tikref1_Of.j0 kq x5_14 x6_14 = some (r1, r2, r3)) ∧ Aside0 (kq ≤ k) ∧ Aside0 (wc.heap[gb101]? = some (.cells #[.int .u64 0, .int .u64 0] 39 (0, 0))) ∧ Aside0 (Below w.heap.size w wc))
          case first =>
            have H := HC15.out
            clear HC15
            by_cases c17 : (wrap64 (((a0 : Nat) : Int) / 4503599627370496)) > 0
            · rw [if_pos c17] at H
              have c17b0 : decide (0 < (wrap64 (((a0 : Nat) : Int) / 4503599627370496))) = true := decide_eq_true c17
              clear c17
              (first | rw [c17b0] | (simp only [i64_w, i32_w]; rw [c17b0]) | skip)
              have H' := Aside0.mk H
              clear H
              go_wp2_with (simp only [bits_run])
              go_meet
              case rel => exact ⟨_, (Go.bits .or .u64 (Go.bits .and .u64 ((a0 : Nat) : Int) 4503599627370495) 4503599627370496), (wrap64 (((a0 : Nat) : Int) / 4503599627370496)), (by first | rfl | (simp; done) | (simp [*]; done)), (by first | rfl | (simp; done) | (simp [*]; done)), H', ⟨by first | omega | exact Nat.le_refl _⟩, ⟨by (with_reducible repeat (first | refine blk_drewN ?_ _ | refine blk_drew ?_ | refine blk_alloc ?_ _)); exact BK101.out⟩, ⟨by repeat (first | (with_reducible first | exact HB.out | apply below_alloc | apply pw_below_drewN | apply below_drew1 | refine below_set ?_ GE101.out) | exact HB.out)⟩⟩
            · rw [if_neg c17] at H
              have c17b0 : decide (0 < (wrap64 (((a0 : Nat) : Int) / 4503599627370496))) = false := decide_eq_false c17
              clear c17
              (first | rw [c17b0] | (simp only [i64_w, i32_w]; rw [c17b0]) | skip)
              have H' := Aside0.mk H
              clear H
              go_wp2_with (simp only [bits_run])
              go_meet
              case rel => exact ⟨_, (Go.bits .and .u64 ((a0 : Nat) : Int) 4503599627370495), (1), (by first | rfl | (simp; done) | (simp [*]; done)), (by first | rfl | (simp; done) | (simp [*]; done)), H', ⟨by first | omega | exact Nat.le_refl _⟩, ⟨by (with_reducible repeat (first | refine blk_drewN ?_ _ | refine blk_drew ?_ | refine blk_alloc ?_ _)); exact BK101.out⟩, ⟨by repeat (first | (with_reducible first | exact HB.out | apply below_alloc | apply pw_below_drewN | apply below_drew1 | refine below_set ?_ GE101.out) | exact HB.out)⟩⟩
          case rest =>
            clear HC15
            try clear c1
            try clear p2
            try clear c3
            try clear c6
            try clear c6b0
            try clear c6b1
            try clear p6
            try clear c8
            try clear c9
            try clear c9b0
            try clear c9b1
            try clear c10
            try clear c12
            try clear c12b0
            try clear c17
            try clear c17b0
            try clear hcz11_0
            try clear hcz11_1
            try clear hcz14_0
            try clear hcz14_1
            try clear hcz5_0
            try clear hcz5_1
            try clear hcz8_0
            try clear hcz8_1
            try clear hfz11_0
            try clear hfz11_1
            try clear hfz14_0
            try clear hfz14_1
            try clear hfz5_0
            try clear hfz5_1
            try clear hfz8_0
            try clear hfz8_1
            obtain ⟨kq, x5_14, x6_14, rfl, rfl, HA, HJ14, BK101, HB⟩ := hcut
            cases kq with
            | zero => exact absurd HA.out (by simp [tikref1_Of.j0])
            | succ kj14 =>
              have H := HA.out
              clear HA
              simp only [tikref1_Of.j0] at H
              by_cases c18 : (wrap64 ((wrap64 (1075 - x6_14)) - 20)) > 60
              · rw [if_pos c18] at H
                have c18b0 : decide (60 < (wrap64 ((wrap64 (1075 - x6_14)) - 20))) = true := decide_eq_true c18
                clear c18
                simp only [Option.some.injEq, Prod.mk.injEq] at H
                obtain ⟨rfl, rfl, rfl⟩ := H
                have hcz19_0 : wc.cell? ⟨gb101, 0, none⟩ = some (.int .u64 0) := (blk_cell BK101.out 0).trans rfl
                have hcz19_1 : wc.cell? ⟨gb101, 1, none⟩ = some (.int .u64 0) := (blk_cell BK101.out 1).trans rfl
                have hfz19_0 := blk_frozen BK101.out 0
                have hfz19_1 := blk_frozen BK101.out 1
                go_wp2_with (simp only [bits_run])
                refine bodyPost_ret (results_ct rfl _ _ gb101 39 #[.int .u64 0, .int .u64 0] (0, 0) _ rfl (by (with_reducible repeat (first | refine blk_drewN ?_ _ | refine blk_drew ?_ | refine blk_alloc ?_ _)); refine blk_put (cs := #[.int .u64 0, .int .u64 0]) ?_ 1 _ rfl; (with_reducible repeat (first | refine blk_drewN ?_ _ | refine blk_drew ?_ | refine blk_alloc ?_ _)); refine blk_put (cs := #[.int .u64 0, .int .u64 0]) ?_ 0 _ rfl; (with_reducible repeat (first | refine blk_drewN ?_ _ | refine blk_drew ?_ | refine blk_alloc ?_ _)); exact BK101.out) Tryd.underlying39 rfl (by kernel_rfl)) rfl ?_
                exact ⟨by first | rfl | (simp [errW_none, errW_some] <;> rfl) | (simp [*, errW_none, errW_some] <;> rfl), by repeat (first | (with_reducible first | exact HB.out | apply below_alloc | apply pw_below_drewN | apply below_drew1 | refine below_set ?_ GE101.out) | exact HB.out)⟩
              · rw [if_neg c18] at H
                have c18b0 : decide (60 < (wrap64 ((wrap64 (1075 - x6_14)) - 20))) = false := decide_eq_false c18
                clear c18
                obtain ⟨ji20, hji20⟩ : ∃ j_ : Int, (IntKind.u64.wrap (wrap64 ((wrap64 (1075 - x6_14)) - 20))) = j_ := ⟨_, rfl⟩
                replace H : (if 0 ≤ (ji20) then (if 0 ≤ (IntKind.u64.wrap (wrap64 ((wrap64 ((wrap64 (1075 - x6_14)) - 20)) - 1))) then (if (Go.bits .and .u64 x5_14 (IntKind.u64.wrap ((shl .u64 1 (ji20)) - 1))) > (shl .u64 1 (IntKind.u64.wrap (wrap64 ((wrap64 ((wrap64 (1075 - x6_14)) - 20)) - 1)))) then (tikref1_Of.j1 kj14 (shr .u64 x5_14 (ji20)) true) else (if (Go.bits .and .u64 x5_14 (IntKind.u64.wrap ((shl .u64 1 (ji20)) - 1))) = (shl .u64 1 (IntKind.u64.wrap (wrap64 ((wrap64 ((wrap64 (1075 - x6_14)) - 20)) - 1)))) then (tikref1_Of.j1 kj14 (shr .u64 x5_14 (ji20)) ((Int.tmod (shr .u64 x5_14 (ji20)) 2) == 1)) else (tikref1_Of.j1 kj14 (shr .u64 x5_14 (ji20)) false))) else (none)) else (none)) = some (r1, r2, r3) := by first | (rw [hji20] at H; exact H) | (simp only [hji20] at H ⊢; exact H)
                by_cases c21 : 0 ≤ (ji20)
                · rw [if_pos c21] at H
                  have c21b0 := eq_true c21
                  have c21b1 : decide (0 ≤ (ji20)) = true := decide_eq_true c21
                  clear c21
                  obtain ⟨ji22, hji22⟩ : ∃ j_ : Int, (shr .u64 x5_14 (ji20)) = j_ := ⟨_, rfl⟩
                  replace H : (if 0 ≤ (IntKind.u64.wrap (wrap64 ((wrap64 ((wrap64 (1075 - x6_14)) - 20)) - 1))) then (if (Go.bits .and .u64 x5_14 (IntKind.u64.wrap ((shl .u64 1 (ji20)) - 1))) > (shl .u64 1 (IntKind.u64.wrap (wrap64 ((wrap64 ((wrap64 (1075 - x6_14)) - 20)) - 1)))) then (tikref1_Of.j1 kj14 ji22 true) else (if (Go.bits .and .u64 x5_14 (IntKind.u64.wrap ((shl .u64 1 (ji20)) - 1))) = (shl .u64 1 (IntKind.u64.wrap (wrap64 ((wrap64 ((wrap64 (1075 - x6_14)) - 20)) - 1)))) then (tikref1_Of.j1 kj14 ji22 ((Int.tmod (ji22) 2) == 1)) else (tikref1_Of.j1 kj14 ji22 false))) else (none)) = some (r1, r2, r3) := by first | (rw [hji22] at H; exact H) | (simp only [hji22] at H ⊢; exact H)
                  have hji22_ : (x5_14 / 2 ^ min (ji20).toNat 64) = ji22 := hji22
                  have hji22z : (ji20) ≤ 64 → (x5_14 / 2 ^ (ji20).toNat) = ji22 := shr_small hji22
                  have c23b0 := eq_true (of_decide_eq_true (by first | (with_reducible assumption) | assumption) : 0 ≤ (ji20))
                  obtain ⟨ji24, hji24⟩ : ∃ j_ : Int, (shl .u64 1 (ji20)) = j_ := ⟨_, rfl⟩
                  replace H : (if 0 ≤ (IntKind.u64.wrap (wrap64 ((wrap64 ((wrap64 (1075 - x6_14)) - 20)) - 1))) then (if (Go.bits .and .u64 x5_14 (IntKind.u64.wrap ((ji24) - 1))) > (shl .u64 1 (IntKind.u64.wrap (wrap64 ((wrap64 ((wrap64 (1075 - x6_14)) - 20)) - 1)))) then (tikref1_Of.j1 kj14 ji22 true) else (if (Go.bits .and .u64 x5_14 (IntKind.u64.wrap ((ji24) - 1))) = (shl .u64 1 (IntKind.u64.wrap (wrap64 ((wrap64 ((wrap64 (1075 - x6_14)) - 20)) - 1)))) then (tikref1_Of.j1 kj14 ji22 ((Int.tmod (ji22) 2) == 1)) else (tikref1_Of.j1 kj14 ji22 false))) else (none)) = some (r1, r2, r3) := by first | (rw [hji24] at H; exact H) | (simp only [hji24] at H ⊢; exact H)
                  have hji24_ : (IntKind.u64.wrap (1 * 2 ^ min (ji20).toNat 64)) = ji24 := hji24
                  have hji24z : (ji20) ≤ 64 → (IntKind.u64.wrap (1 * 2 ^ (ji20).toNat)) = ji24 := shl_small hji24
                  have hji24u : (IntKind.u64.wrap (2 ^ min (ji20).toNat 64)) = ji24 := by have h_ := hji24_; rw [Int.one_mul] at h_; exact h_
                  have hji24v : (ji20) ≤ 64 → (IntKind.u64.wrap (2 ^ (ji20).toNat)) = ji24 := fun hle_ => by have h_ := hji24z hle_; rw [Int.one_mul] at h_; exact h_
                  obtain ⟨ji25, hji25⟩ : ∃ j_ : Int, (IntKind.u64.wrap (wrap64 ((wrap64 ((wrap64 (1075 - x6_14)) - 20)) - 1))) = j_ := ⟨_, rfl⟩
                  replace H : (if 0 ≤ (ji25) then (if (Go.bits .and .u64 x5_14 (IntKind.u64.wrap ((ji24) - 1))) > (shl .u64 1 (ji25)) then (tikref1_Of.j1 kj14 ji22 true) else (if (Go.bits .and .u64 x5_14 (IntKind.u64.wrap ((ji24) - 1))) = (shl .u64 1 (ji25)) then (tikref1_Of.j1 kj14 ji22 ((Int.tmod (ji22) 2) == 1)) else (tikref1_Of.j1 kj14 ji22 false))) else (none)) = some (r1, r2, r3) := by first | (rw [hji25] at H; exact H) | (simp only [hji25] at H ⊢; exact H)
                  by_cases c26 : 0 ≤ (ji25)
                  · rw [if_pos c26] at H
                    have c26b0 := eq_true c26
                    have c26b1 : decide (0 ≤ (ji25)) = true := decide_eq_true c26
                    clear c26
                    obtain ⟨ji27, hji27⟩ : ∃ j_ : Int, (shl .u64 1 (ji25)) = j_ := ⟨_, rfl⟩
                    replace H : (if (Go.bits .and .u64 x5_14 (IntKind.u64.wrap ((ji24) - 1))) > (ji27) then (tikref1_Of.j1 kj14 ji22 true) else (if (Go.bits .and .u64 x5_14 (IntKind.u64.wrap ((ji24) - 1))) = (ji27) then (tikref1_Of.j1 kj14 ji22 ((Int.tmod (ji22) 2) == 1)) else (tikref1_Of.j1 kj14 ji22 false))) = some (r1, r2, r3) := by first | (rw [hji27] at H; exact H) | (simp only [hji27] at H ⊢; exact H)
                    have hji27_ : (IntKind.u64.wrap (1 * 2 ^ min (ji25).toNat 64)) = ji27 := hji27
                    have hji27z : (ji25) ≤ 64 → (IntKind.u64.wrap (1 * 2 ^ (ji25).toNat)) = ji27 := shl_small hji27
                    have hji27u : (IntKind.u64.wrap (2 ^ min (ji25).toNat 64)) = ji27 := by have h_ := hji27_; rw [Int.one_mul] at h_; exact h_
                    have hji27v : (ji25) ≤ 64 → (IntKind.u64.wrap (2 ^ (ji25).toNat)) = ji27 := fun hle_ => by have h_ := hji27z hle_; rw [Int.one_mul] at h_; exact h_
                    have HC28 := Aside0.mk H
                    clear H
                    go_upto_region 18 with (simp only [bits_run])
                    go_cut [72] (fun v72 wc => ∃ (kq : Nat) (x72_27 : Bool), v72 = .bool x72_27 ∧ Aside0 (tikref1_Of.j1 kq ji22 x72_27 = some (r1, r2, r3)) ∧ Aside0 (kq ≤ kj14) ∧ Aside0 (wc.heap[gb101]? = some (.cells #[.int .u64 0, .int .u64 0] 39 (0, 0))) ∧ Aside0 (Below w.heap.size w wc))
                    case first =>
                      have H := HC28.out
                      clear HC28
                      by_cases c29 : (Go.bits .and .u64 x5_14 (IntKind.u64.wrap ((ji24) - 1))) > (ji27)
                      · rw [if_pos c29] at H
                        have c29b0 : decide ((ji27) < (Go.bits .and .u64 x5_14 (IntKind.u64.wrap ((ji24) - 1)))) = true := decide_eq_true c29
                        clear c29
                        (first | rw [c29b0] | (simp only [i64_w, i32_w]; rw [c29b0]) | skip)
                        have H' := Aside0.mk H
                        clear H
                        go_wp2_with (simp only [bits_run])
                        go_meet
                        case rel => exact ⟨_, (true), (by first | rfl | (simp; done) | (simp [*]; done)), H', ⟨by have := HJ14.out; first | omega | exact Nat.le_refl _⟩, ⟨by (with_reducible repeat (first | refine blk_drewN ?_ _ | refine blk_drew ?_ | refine blk_alloc ?_ _)); exact BK101.out⟩, ⟨by repeat (first | (with_reducible first | exact HB.out | apply below_alloc | apply pw_below_drewN | apply below_drew1 | refine below_set ?_ GE101.out) | exact HB.out)⟩⟩
                      · rw [if_neg c29] at H
                        have c29b0 : decide ((ji27) < (Go.bits .and .u64 x5_14 (IntKind.u64.wrap ((ji24) - 1)))) = false := decide_eq_false c29
                        clear c29
                        (first | rw [c29b0] | (simp only [i64_w, i32_w]; rw [c29b0]) | skip)
                        by_cases c30 : (Go.bits .and .u64 x5_14 (IntKind.u64.wrap ((ji24) - 1))) = (ji27)
                        · rw [if_pos c30] at H
                          have c30b0 : ((Go.bits .and .u64 x5_14 (IntKind.u64.wrap ((ji24) - 1))) == (ji27)) = true := beq_iff_eq.mpr c30
                          have c30b1 : ((Go.bits .and .u64 x5_14 (IntKind.u64.wrap ((ji24) - 1))) != (ji27)) = false := bne_eq_false_iff_eq.mpr c30
                          clear c30
                          have H' := Aside0.mk H
                          clear H
                          go_wp2_with (simp only [bits_run])
                          go_meet
                          case rel => exact ⟨_, (((Int.tmod (ji22) 2) == 1)), (by first | rfl | (simp; done) | (simp only [← hji22] <;> (first | rfl | simp)) | (simp [*]; done)), H', ⟨by have := HJ14.out; first | omega | exact Nat.le_refl _⟩, ⟨by (with_reducible repeat (first | refine blk_drewN ?_ _ | refine blk_drew ?_ | refine blk_alloc ?_ _)); exact BK101.out⟩, ⟨by repeat (first | (with_reducible first | exact HB.out | apply below_alloc | apply pw_below_drewN | apply below_drew1 | refine below_set ?_ GE101.out) | exact HB.out)⟩⟩
                        · rw [if_neg c30] at H
                          have c30b0 : ((Go.bits .and .u64 x5_14 (IntKind.u64.wrap ((ji24) - 1))) == (ji27)) = false := beq_eq_false_iff_ne.mpr c30
                          have c30b1 : ((Go.bits .and .u64 x5_14 (IntKind.u64.wrap ((ji24) - 1))) != (ji27)) = true := bne_iff_ne.mpr c30
                          have H' := Aside0.mk H
                          clear H
                          go_wp2_with (simp only [bits_run])
                          go_meet
                          case rel => exact ⟨_, (false), (by first | rfl | (simp; done) | (simp [*]; done)), H', ⟨by have := HJ14.out; first | omega | exact Nat.le_refl _⟩, ⟨by (with_reducible repeat (first | refine blk_drewN ?_ _ | refine blk_drew ?_ | refine blk_alloc ?_ _)); exact BK101.out⟩, ⟨by repeat (first | (with_reducible first | exact HB.out | apply below_alloc | apply pw_below_drewN | apply below_drew1 | refine below_set ?_ GE101.out) | exact HB.out)⟩⟩
                    case rest =>
                      clear HC28
                      try clear c1
                      try clear c2
                      try clear p2
                      try clear c3
                      try clear c6
                      try clear c6b0
                      try clear c6b1
                      try clear p6
                      try clear c8
                      try clear c9
                      try clear c9b0
                      try clear c9b1
                      try clear c10
                      try clear c12
                      try clear c12b0
                      try clear c17
                      try clear c17b0
                      try clear c18
                      try clear c18b0
                      try clear c21
                      try clear c21b0
                      try clear c21b1
                      try clear c23
                      try clear c23b0
                      try clear c26
                      try clear c26b0
                      try clear c26b1
                      try clear c29
                      try clear c29b0
                      try clear c30
                      try clear c30b0
                      try clear c30b1
                      try clear hcz11_0
                      try clear hcz11_1
                      try clear hcz14_0
                      try clear hcz14_1
                      try clear hcz19_0
                      try clear hcz19_1
                      try clear hcz5_0
                      try clear hcz5_1
                      try clear hcz8_0
                      try clear hcz8_1
                      try clear hfz11_0
                      try clear hfz11_1
                      try clear hfz14_0
                      try clear hfz14_1
                      try clear hfz19_0
                      try clear hfz19_1
                      try clear hfz5_0
                      try clear hfz5_1
                      try clear hfz8_0
                      try clear hfz8_1
                      try clear p2
                      try clear p6
                      obtain ⟨kq, x72_27, rfl, HA, HJ27, BK101, HB⟩ := hcut
                      cases kq with
                      | zero => exact absurd HA.out (by simp [tikref1_Of.j1])
                      | succ kj27 =>
                        have H := HA.out
                        clear HA
                        simp only [tikref1_Of.j1] at H
                        by_cases c31 : x72_27 = true
                        · subst c31
                          have H1 : (if (IntKind.u64.wrap (ji22 + 1)) = 0 then (some (0, 0, 1)) else ((tikref1_least.f kj27 (IntKind.u64.wrap (ji22 + 1))).bind fun bt103 => (some (bt103.1, bt103.2, 0)))) = some (r1, r2, r3) := by rw [if_pos rfl] at H; exact H
                          clear H
                          have H := H1
                          clear H1
                          by_cases c32 : (IntKind.u64.wrap (ji22 + 1)) = 0
                          · rw [if_pos c32] at H
                            have c32b0 : ((IntKind.u64.wrap (ji22 + 1)) == 0) = true := beq_iff_eq.mpr c32
                            have c32b1 : ((IntKind.u64.wrap (ji22 + 1)) != 0) = false := bne_eq_false_iff_eq.mpr c32
                            clear c32
                            simp only [Option.some.injEq, Prod.mk.injEq] at H
                            obtain ⟨rfl, rfl, rfl⟩ := H
                            have hcz33_0 : wc.cell? ⟨gb101, 0, none⟩ = some (.int .u64 0) := (blk_cell BK101.out 0).trans rfl
                            have hcz33_1 : wc.cell? ⟨gb101, 1, none⟩ = some (.int .u64 0) := (blk_cell BK101.out 1).trans rfl
                            have hfz33_0 := blk_frozen BK101.out 0
                            have hfz33_1 := blk_frozen BK101.out 1
                            go_wp2_with (simp only [bits_run])
                            refine bodyPost_ret (results_ct rfl _ _ gb101 39 #[.int .u64 0, .int .u64 0] (0, 0) _ rfl (by (with_reducible repeat (first | refine blk_drewN ?_ _ | refine blk_drew ?_ | refine blk_alloc ?_ _)); refine blk_put (cs := #[.int .u64 0, .int .u64 0]) ?_ 1 _ rfl; (with_reducible repeat (first | refine blk_drewN ?_ _ | refine blk_drew ?_ | refine blk_alloc ?_ _)); refine blk_put (cs := #[.int .u64 0, .int .u64 0]) ?_ 0 _ rfl; (with_reducible repeat (first | refine blk_drewN ?_ _ | refine blk_drew ?_ | refine blk_alloc ?_ _)); exact BK101.out) Tryd.underlying39 rfl (by kernel_rfl)) rfl ?_
                            exact ⟨by first | rfl | (simp [errW_none, errW_some] <;> rfl) | (simp only [← hji20, ← hji22, ← hji24, ← hji25, ← hji27]; first | rfl | (simp [errW_none, errW_some] <;> rfl)) | (simp [*, errW_none, errW_some] <;> rfl), by repeat (first | (with_reducible first | exact HB.out | apply below_alloc | apply pw_below_drewN | apply below_drew1 | refine below_set ?_ GE101.out) | exact HB.out)⟩
                          · rw [if_neg c32] at H
                            have c32b0 : ((IntKind.u64.wrap (ji22 + 1)) == 0) = false := beq_eq_false_iff_ne.mpr c32
                            have c32b1 : ((IntKind.u64.wrap (ji22 + 1)) != 0) = true := bne_iff_ne.mpr c32
                            replace H := Option.bind_eq_some_iff.mp H
                            obtain ⟨⟨t103, t104⟩, A340, H⟩ := H
                            replace H : (some (t103, t104, 0)) = some (r1, r2, r3) := H
                            have A34 := Aside0.mk A340
                            clear A340
                            simp only [Option.some.injEq, Prod.mk.injEq] at H
                            obtain ⟨rfl, rfl, rfl⟩ := H
                            go_wp2_with (first | simp only [bits_run] | ((with_reducible refine gate_callee (f := 108) rfl ?_); refine goesL_ (some 79) rfl rfl Tryd.func108 (by kernel_rfl) rfl #[.int .u64 (IntKind.u64.wrap (ji22 + 1))] rfl (by (try simp only [List.map_toArray, List.map_cons, List.map_nil]); first | done | (simp only [hji22]; rfl) | rfl | (simp only [List.length_drop, List.length_take]; rfl)) ?_; (with_reducible refine (tikref1_least.calls kj27 (IntKind.u64.wrap (ji22 + 1)) t103 t104 _ A34.out).mono ?_); rintro e w35 ⟨rfl, hb⟩; refine ⟨_, rfl, ?_⟩; have n0_ := Aside0.mk (blk_below (g := gb101) (o := .cells #[.int .u64 0, .int .u64 0] 39 (0, 0)) (by (with_reducible repeat (first | refine blk_drewN ?_ _ | refine blk_drew ?_ | refine blk_alloc ?_ _)); exact BK101.out) hb); have n1_ := Aside0.mk (below_step (by repeat (first | (with_reducible first | exact HB.out | apply below_alloc | apply pw_below_drewN | apply below_drew1 | refine below_set ?_ GE101.out) | exact HB.out)) hb); clear BK101; clear HB; have BK101 := n0_; have HB := n1_; clear n0_ n1_; (try clear hb); (try clear hb2); (try clear hk); (try clear hi); have hcz36_0 : w35.cell? ⟨gb101, 0, none⟩ = some (.int .u64 0) := (blk_cell BK101.out 0).trans rfl; have hcz36_1 : w35.cell? ⟨gb101, 1, none⟩ = some (.int .u64 0) := (blk_cell BK101.out 1).trans rfl; have hfz36_0 := blk_frozen BK101.out 0; have hfz36_1 := blk_frozen BK101.out 1))
                            refine bodyPost_ret (results_ct rfl _ _ gb101 39 #[.int .u64 t103, .int .u64 t104] (0, 0) _ rfl (by (with_reducible repeat (first | refine blk_drewN ?_ _ | refine blk_drew ?_ | refine blk_alloc ?_ _)); refine blk_put (cs := #[.int .u64 t103, .int .u64 0]) ?_ 1 _ rfl; (with_reducible repeat (first | refine blk_drewN ?_ _ | refine blk_drew ?_ | refine blk_alloc ?_ _)); refine blk_put (cs := #[.int .u64 0, .int .u64 0]) ?_ 0 _ rfl; (with_reducible repeat (first | refine blk_drewN ?_ _ | refine blk_drew ?_ | refine blk_alloc ?_ _)); exact BK101.out) Tryd.underlying39 rfl (by kernel_rfl)) rfl ?_
                            exact ⟨by first | rfl | (simp [errW_none, errW_some] <;> rfl) | (simp only [← hji20, ← hji22, ← hji24, ← hji25, ← hji27]; first | rfl | (simp [errW_none, errW_some] <;> rfl)) | (simp [*, errW_none, errW_some] <;> rfl), by repeat (first | (with_reducible first | exact HB.out | apply below_alloc | apply pw_below_drewN | apply below_drew1 | refine below_set ?_ GE101.out) | exact HB.out)⟩
                        · replace c31 := Bool.eq_false_iff.mpr c31
                          subst c31
                          have H1 : (if ji22 = 0 then (some (0, 0, 1)) else ((tikref1_least.f kj27 ji22).bind fun bt105 => (some (bt105.1, bt105.2, 0)))) = some (r1, r2, r3) := by rw [if_neg (show ¬ (false = true) by decide)] at H; exact H
                          clear H
                          have H := H1
                          clear H1
                          by_cases c37 : ji22 = 0
                          · rw [if_pos c37] at H
                            have c37b0 : (ji22 == 0) = true := beq_iff_eq.mpr c37
                            have c37b1 : (ji22 != 0) = false := bne_eq_false_iff_eq.mpr c37
                            clear c37
                            simp only [Option.some.injEq, Prod.mk.injEq] at H
                            obtain ⟨rfl, rfl, rfl⟩ := H
                            have hcz38_0 : wc.cell? ⟨gb101, 0, none⟩ = some (.int .u64 0) := (blk_cell BK101.out 0).trans rfl
                            have hcz38_1 : wc.cell? ⟨gb101, 1, none⟩ = some (.int .u64 0) := (blk_cell BK101.out 1).trans rfl
                            have hfz38_0 := blk_frozen BK101.out 0
                            have hfz38_1 := blk_frozen BK101.out 1
                            go_wp2_with (simp only [bits_run])
                            refine bodyPost_ret (results_ct rfl _ _ gb101 39 #[.int .u64 0, .int .u64 0] (0, 0) _ rfl (by (with_reducible repeat (first | refine blk_drewN ?_ _ | refine blk_drew ?_ | refine blk_alloc ?_ _)); refine blk_put (cs := #[.int .u64 0, .int .u64 0]) ?_ 1 _ rfl; (with_reducible repeat (first | refine blk_drewN ?_ _ | refine blk_drew ?_ | refine blk_alloc ?_ _)); refine blk_put (cs := #[.int .u64 0, .int .u64 0]) ?_ 0 _ rfl; (with_reducible repeat (first | refine blk_drewN ?_ _ | refine blk_drew ?_ | refine blk_alloc ?_ _)); exact BK101.out) Tryd.underlying39 rfl (by kernel_rfl)) rfl ?_
                            exact ⟨by first | rfl | (simp [errW_none, errW_some] <;> rfl) | (simp only [← hji20, ← hji22, ← hji24, ← hji25, ← hji27]; first | rfl | (simp [errW_none, errW_some] <;> rfl)) | (simp [*, errW_none, errW_some] <;> rfl), by repeat (first | (with_reducible first | exact HB.out | apply below_alloc | apply pw_below_drewN | apply below_drew1 | refine below_set ?_ GE101.out) | exact HB.out)⟩
                          · rw [if_neg c37] at H
                            have c37b0 : (ji22 == 0) = false := beq_eq_false_iff_ne.mpr c37
                            have c37b1 : (ji22 != 0) = true := bne_iff_ne.mpr c37
                            replace H := Option.bind_eq_some_iff.mp H
                            obtain ⟨⟨t105, t106⟩, A390, H⟩ := H
                            replace H : (some (t105, t106, 0)) = some (r1, r2, r3) := H
                            have A39 := Aside0.mk A390
                            clear A390
                            simp only [Option.some.injEq, Prod.mk.injEq] at H
                            obtain ⟨rfl, rfl, rfl⟩ := H
                            go_wp2_with (first | simp only [bits_run] | ((with_reducible refine gate_callee (f := 108) rfl ?_); refine goesL_ (some 79) rfl rfl Tryd.func108 (by kernel_rfl) rfl #[.int .u64 ji22] rfl (by (try simp only [List.map_toArray, List.map_cons, List.map_nil]); first | done | (simp only [hji22]; rfl) | rfl | (simp only [List.length_drop, List.length_take]; rfl)) ?_; (with_reducible refine (tikref1_least.calls kj27 ji22 t105 t106 _ A39.out).mono ?_); rintro e w40 ⟨rfl, hb⟩; refine ⟨_, rfl, ?_⟩; have n0_ := Aside0.mk (blk_below (g := gb101) (o := .cells #[.int .u64 0, .int .u64 0] 39 (0, 0)) (by (with_reducible repeat (first | refine blk_drewN ?_ _ | refine blk_drew ?_ | refine blk_alloc ?_ _)); exact BK101.out) hb); have n1_ := Aside0.mk (below_step (by repeat (first | (with_reducible first | exact HB.out | apply below_alloc | apply pw_below_drewN | apply below_drew1 | refine below_set ?_ GE101.out) | exact HB.out)) hb); clear BK101; clear HB; have BK101 := n0_; have HB := n1_; clear n0_ n1_; (try clear hb); (try clear hb2); (try clear hk); (try clear hi); have hcz41_0 : w40.cell? ⟨gb101, 0, none⟩ = some (.int .u64 0) := (blk_cell BK101.out 0).trans rfl; have hcz41_1 : w40.cell? ⟨gb101, 1, none⟩ = some (.int .u64 0) := (blk_cell BK101.out 1).trans rfl; have hfz41_0 := blk_frozen BK101.out 0; have hfz41_1 := blk_frozen BK101.out 1))
                            refine bodyPost_ret (results_ct rfl _ _ gb101 39 #[.int .u64 t105, .int .u64 t106] (0, 0) _ rfl (by (with_reducible repeat (first | refine blk_drewN ?_ _ | refine blk_drew ?_ | refine blk_alloc ?_ _)); refine blk_put (cs := #[.int .u64 t105, .int .u64 0]) ?_ 1 _ rfl; (with_reducible repeat (first | refine blk_drewN ?_ _ | refine blk_drew ?_ | refine blk_alloc ?_ _)); refine blk_put (cs := #[.int .u64 0, .int .u64 0]) ?_ 0 _ rfl; (with_reducible repeat (first | refine blk_drewN ?_ _ | refine blk_drew ?_ | refine blk_alloc ?_ _)); exact BK101.out) Tryd.underlying39 rfl (by kernel_rfl)) rfl ?_
                            exact ⟨by first | rfl | (simp [errW_none, errW_some] <;> rfl) | (simp only [← hji20, ← hji22, ← hji24, ← hji25, ← hji27]; first | rfl | (simp [errW_none, errW_some] <;> rfl)) | (simp [*, errW_none, errW_some] <;> rfl), by repeat (first | (with_reducible first | exact HB.out | apply below_alloc | apply pw_below_drewN | apply below_drew1 | refine below_set ?_ GE101.out) | exact HB.out)⟩
                  · rw [if_neg c26] at H
                    exact absurd H (by simp)
                · rw [if_neg c21] at H
                  exact absurd H (by simp)
end Go.Proofs.YtlgfmmkabnbllaaDoor.PE
namespace Go.Proofs.YtlgfmmkabnbllaaDoor.Hand
open Go.RowKit Go.Proofs.YtlgfmmkabnbllaaDoorW.PrintWords Go.Proofs.YtlgfmmkabnbllaaDoorW.PrintLast Go.Proofs.YtlgfmmkabnbllaaDoorW.PrintMore Go.Proofs.YtlgfmmkabnbllaaDoor.PA Go.Proofs.YtlgfmmkabnbllaaDoor.PB Go.Proofs.YtlgfmmkabnbllaaDoor.PC Go.Proofs.YtlgfmmkabnbllaaDoor.PD Go.Proofs.YtlgfmmkabnbllaaDoor.PE
set_option linter.unusedSimpArgs false
set_option linter.unusedVariables false
set_option exponentiation.threshold 3000
def lb : Nat → Nat → Nat
  | 0, _ => 0
  | j + 1, n => if n % 2 = 0 then lb j (n / 2) + 1 else 0
theorem lb_ctz : ∀ j f n, j ≤ f → lb j n = min (Lib.ctzFrom f n) j
  | 0, _, _, _ => by simp [lb]
  | j + 1, f, n, h => by
    obtain ⟨g, rfl⟩ : ∃ g, f = g + 1 := ⟨f - 1, by omega⟩
    have ih := lb_ctz j g (n / 2) (by omega)
    unfold lb Lib.ctzFrom
    generalize Lib.ctzFrom g (n / 2) = c at *
    rw [ih]
    by_cases q : n % 2 = 0
    · rw [if_pos q, if_neg (by omega)]; omega
    · rw [if_neg q, if_pos (by omega)]; omega
theorem lb_by (n : Nat) : lb 20 n = byOf n := by
  have h := lb_ctz 20 64 n (by omega)
  rw [h]
  unfold byOf Lib.ctz
  by_cases q : n = 0
  · subst q; decide +kernel
  · rw [if_neg q]
theorem isnan_eq {b : Nat} (h : b < 18446744073709551616) : decide (IntKind.u64.wrap ((b : Int) * 2) > 18437736874454810624) = nanB b := by
  unfold nanB
  apply decide_eq_decide.2
  have : IntKind.u64.wrap ((b : Int) * 2) = ((b : Int) * 2) % 18446744073709551616 := by simp [IntKind.wrap, IntKind.signed, IntKind.bits]
  rw [this]; omega
theorem least_loop : ∀ (j n K : Nat), j ≤ 20 → n ≤ 1073741824 → tikref1_least.l0 (K + j + 1) (n : Int) (2 ^ j) = some (((n / 2 ^ lb j n : Nat) : Int), 2 ^ (j - lb j n))
  | 0, n, K, _, _ => by
    rw [tikref1_least.l0, if_neg (by decide)]
    simp [lb]
  | j + 1, n, K, hj, hn => by
    obtain ⟨p1, p2⟩ := pow_20 j (by omega)
    have e2 : (2 : Int) ^ (j + 1) = 2 * 2 ^ j := by rw [Int.pow_succ]; omega
    have t1 : Int.tmod (n : Int) 2 = (n : Int) % 2 := tmod_two _ (by omega)
    rw [show K + (j + 1) + 1 = (K + j + 1) + 1 by omega, tikref1_least.l0, t1]
    unfold lb
    by_cases q : n % 2 = 0
    · have w1 : IntKind.u64.wrap (Int.tdiv (n : Int) 2) = ((n / 2 : Nat) : Int) := by
        rw [Int.tdiv_eq_ediv_of_nonneg (by omega), IntWalk.u64_in _ ⟨by omega, by omega⟩]; omega
      have w2 : IntKind.u64.wrap (Int.tdiv ((2 : Int) ^ (j + 1)) 2) = 2 ^ j := by
        rw [e2, Int.tdiv_eq_ediv_of_nonneg (by omega), IntWalk.u64_in _ ⟨by omega, by omega⟩]; omega
      rw [if_pos (by rw [e2]; clear w1 w2; omega), if_pos (by clear w1 w2; omega), w1, w2, if_pos q]
      clear w1 w2
      have ih := least_loop j (n / 2) K (by omega) (by omega)
      rw [ih, Nat.div_div_eq_div_mul]
      have e3 : 2 * 2 ^ lb j (n / 2) = 2 ^ (lb j (n / 2) + 1) := by rw [Nat.pow_succ]; omega
      rw [e3, show j + 1 - (lb j (n / 2) + 1) = j - lb j (n / 2) by omega]
    · rw [if_pos (by rw [e2]; omega), if_neg (by omega), if_neg q]
      simp
theorem least_any (n K : Nat) (hn : n ≤ 1073741824) : tikref1_least.f (K + 21) (n : Int) = some (((n / 2 ^ byOf n : Nat) : Int), 2 ^ (20 - byOf n)) := by
  have := least_loop 20 n K (by omega) hn
  rw [lb_by] at this
  exact this
theorem shl60 : ∀ k : Fin 61, 0 ≤ IntKind.u64.wrap (k.val : Int) ∧ shl .u64 1 (IntKind.u64.wrap (k.val : Int)) = (2 : Int) ^ k.val ∧ IntKind.u64.wrap ((2 : Int) ^ k.val - 1) = (2 : Int) ^ k.val - 1 ∧ IntKind.u64.wrap (k.val : Int) = (k.val : Int) := by decide +kernel
theorem and_mask60 (x k : Nat) (hk : k ≤ 60) (h : x < 18446744073709551616) : Go.bits .and .u64 (x : Int) (2 ^ k - 1) = ((x % 2 ^ k : Nat) : Int) := by
  have p1 : 1 ≤ (2 : Nat) ^ k := Nat.one_le_two_pow
  have p2 : (2 : Nat) ^ k ≤ 2 ^ 60 := Nat.pow_le_pow_right (by decide) hk
  have e : ((2 : Int) ^ k - 1) = ((2 ^ k - 1 : Nat) : Int) := by rw [Int.natCast_sub p1, Int.natCast_pow]; rfl
  have e60 : (2 : Nat) ^ 60 = 1152921504606846976 := by decide
  rw [e, u64_and_nat x (2 ^ k - 1) h (by omega), Nat.and_two_pow_sub_one_eq_mod]
theorem or_52 (x : Nat) (h : x < 4503599627370496) : Go.bits .or .u64 (x : Int) 4503599627370496 = ((4503599627370496 + x : Nat) : Int) := by
  have := u64_or_nat x 4503599627370496 (by omega) (by decide)
  refine this.trans ?_
  have e := Nat.two_pow_add_eq_or_of_lt (i := 52) (b := x) (by rw [pow52]; exact h) 1
  rw [pow52, Nat.mul_one] at e
  rw [Nat.or_comm, ← e]
theorem of_j1 (K n : Nat) (up : Bool) (hn : n + up.toNat ≤ 1073741824) : tikref1_Of.j1 (K + 21 + 1) (n : Int) up = some (if n + up.toNat = 0 then (0, 0, 1) else ((((n + up.toNat) / 2 ^ byOf (n + up.toNat) : Nat) : Int), 2 ^ (20 - byOf (n + up.toNat)), 0)) := by
  rw [tikref1_Of.j1]
  cases up with
  | true =>
    have w : IntKind.u64.wrap ((n : Int) + 1) = ((n + 1 : Nat) : Int) := by rw [IntWalk.u64_in _ ⟨by omega, by have : true.toNat = 1 := rfl; omega⟩]; omega
    rw [if_pos rfl, w, if_neg (by clear w; omega)]
    show (tikref1_least.f (K + 21) ((n + 1 : Nat) : Int)).bind _ = _
    rw [least_any (n + 1) K hn]
    show _ = some (if n + 1 = 0 then _ else _)
    rw [if_neg (by clear w; omega)]; rfl
  | false =>
    rw [if_neg (by decide)]
    have e0 : n + false.toNat = n := rfl
    rw [e0] at hn ⊢
    by_cases q : n = 0
    · rw [if_pos (by omega), if_pos q]
    · rw [if_neg (by omega), if_neg q]
      show (tikref1_least.f (K + 21) (n : Int)).bind _ = _
      rw [least_any n K hn]; rfl
theorem of_j0 (K : Nat) {b : Nat} (h0 : 0 < b) (h : b ≤ 4652218415073722368) : tikref1_Of.j0 (K + 21 + 1 + 1) (mg b : Int) ((ex b + 1 : Nat) : Int) = some (if nOf b = 0 then (0, 0, 1) else (((nOf b / 2 ^ byOf (nOf b) : Nat) : Int), 2 ^ (20 - byOf (nOf b)), 0)) := by
  have hx : ex b ≤ 1032 := by unfold ex; omega
  obtain ⟨D, hD⟩ : ∃ D, D = 1054 - ex b := ⟨_, rfl⟩
  have e1 : wrap64 (1075 - ((ex b + 1 : Nat) : Int)) = ((D + 20 : Nat) : Int) := by rw [IntWalk.wrap64_in _ (by omega)]; omega
  have e2 : wrap64 (((D + 20 : Nat) : Int) - 20) = (D : Int) := by clear e1; rw [IntWalk.wrap64_in _ (by omega)]; omega
  have e3 : wrap64 ((D : Int) - 1) = ((D - 1 : Nat) : Int) := by clear e1 e2; rw [IntWalk.wrap64_in _ (by omega)]; omega
  rw [tikref1_Of.j0, e1, e2, e3]
  clear e1 e2 e3
  by_cases q : D > 60
  · rw [if_pos (by omega)]
    have : nOf b = 0 := nOf_zero (by unfold ex at hD; omega)
    rw [if_pos this]
  · have hm := mg_lt b
    obtain ⟨a1, a2, a3, a4⟩ := shl60 ⟨D, by omega⟩
    obtain ⟨b1, b2, _, _⟩ := shl60 ⟨D - 1, by omega⟩
    dsimp only at a1 a2 a3 a4 b1 b2
    have es : shr .u64 (mg b : Int) (IntKind.u64.wrap (D : Int)) = ((mg b / 2 ^ D : Nat) : Int) := by
      rw [a4]
      unfold shr
      have : min ((D : Int).toNat) IntKind.u64.bits = D := by show min D 64 = D; omega
      rw [this, Int.natCast_ediv, Int.natCast_pow]; rfl
    have hn := nOf_le h
    have hr : nOf b = mg b / 2 ^ D + (if mg b % 2 ^ D > 2 ^ (D - 1) ∨ (mg b % 2 ^ D = 2 ^ (D - 1) ∧ mg b / 2 ^ D % 2 = 1) then 1 else 0) := by
      have := rne_parts (mg b) D (by omega)
      unfold nOf
      rw [← hD]; exact this
    have ec : (2 : Int) ^ (D - 1) = ((2 ^ (D - 1) : Nat) : Int) := by rw [Int.natCast_pow]; rfl
    rw [if_neg (by omega), if_pos a1, if_pos b1, a2, a3, b2, es, and_mask60 (mg b) D (by omega) (by omega), ec]
    have ht : Int.tmod ((mg b / 2 ^ D : Nat) : Int) 2 = ((mg b / 2 ^ D % 2 : Nat) : Int) := by rw [tmod_two _ (Int.natCast_nonneg _), Int.natCast_emod]; rfl
    clear a1 a2 a3 a4 b1 b2 es ec
    generalize mg b / 2 ^ D = n at *
    generalize mg b % 2 ^ D = r at *
    generalize 2 ^ (D - 1) = hf at *
    by_cases q1 : r > hf
    · rw [if_pos (by omega)]
      rw [if_pos (.inl q1)] at hr
      rw [hr]
      exact of_j1 K n true (by rw [← show n + 1 = n + true.toNat from rfl]; omega)
    · rw [if_neg (by omega)]
      by_cases q2 : r = hf
      · rw [if_pos (by omega), ht]
        by_cases q3 : n % 2 = 1
        · rw [if_pos (.inr ⟨q2, q3⟩)] at hr
          rw [hr, q3]
          exact of_j1 K n true (by rw [← show n + 1 = n + true.toNat from rfl]; omega)
        · rw [if_neg (by omega)] at hr
          have : ((((n % 2 : Nat) : Int)) == 1) = false := beq_eq_false_iff_ne.mpr (by omega)
          rw [hr, this]
          exact of_j1 K n false (by rw [← show n + 0 = n + false.toNat from rfl]; omega)
      · rw [if_neg (by omega)]
        rw [if_neg (by omega)] at hr
        rw [hr]
        exact of_j1 K n false (by rw [← show n + 0 = n + false.toNat from rfl]; omega)
theorem ref_of (K : Nat) {b : Nat} (hb : b < 18446744073709551616) : tikref1_Of.f (K + 23) b = some (ofV b) := by
  have hi : tikref1_isNaN.f (b : Int) = some (nanB b) := congrArg some (isnan_eq hb)
  unfold tikref1_Of.f ofV
  rw [hi, Option.bind_some]
  by_cases q0 : nanB b = true
  · rw [if_pos q0, if_pos q0]
  · rw [if_neg q0, if_neg q0]
    by_cases q1 : 9223372036854775808 ≤ b
    · rw [if_pos (by omega), if_pos q1]
    · rw [if_neg (by omega), if_neg q1]
      by_cases q2 : b = 0
      · subst q2
        rw [if_pos (by omega), if_neg (by omega)]
        have n0 : nOf 0 = 0 := nOf_zero (by omega)
        rw [n0, if_neg (by omega)]
        decide +kernel
      · rw [if_neg (by omega)]
        by_cases q3 : 4652218415073722368 < b
        · rw [if_pos (by omega), if_pos q3]
        · rw [if_neg (by omega), if_neg q3]
          have hw : wrap64 ((b : Int) / 4503599627370496) = (b : Int) / 4503599627370496 := IntWalk.wrap64_in _ (by omega)
          have ha : Go.bits .and .u64 (b : Int) 4503599627370495 = ((b % 4503599627370496 : Nat) : Int) := by
            have := and_mask60 b 52 (by omega) hb
            rw [pow52] at this
            exact this
          have hj := of_j0 K (b := b) (by omega) (by omega)
          have hif : ∀ (x y : Int × Int × Int), (if nOf b = 0 then x else y) = (if nOf b = 0 ∧ 0 < b then x else y) := fun x y => by
            by_cases z : nOf b = 0
            · rw [if_pos z, if_pos ⟨z, by omega⟩]
            · rw [if_neg z, if_neg (fun h => z h.1)]
          rw [hif] at hj
          rw [hw, ha]
          by_cases q4 : b < 4503599627370496
          · have e := mg_sub q4
            rw [if_neg (by clear hw; omega)]
            rw [e.1, e.2] at hj
            rw [Nat.mod_eq_of_lt q4]
            exact hj
          · have e5 : mg b = 4503599627370496 + b % 4503599627370496 := (mg_norm (by omega)).symm
            have e6 : ((ex b + 1 : Nat) : Int) = (b : Int) / 4503599627370496 := by unfold ex; omega
            rw [if_pos (by clear hw; omega), or_52 _ (Nat.mod_lt _ (by decide)), ← e5, ← e6]
            exact hj
end Go.Proofs.YtlgfmmkabnbllaaDoor.Hand
