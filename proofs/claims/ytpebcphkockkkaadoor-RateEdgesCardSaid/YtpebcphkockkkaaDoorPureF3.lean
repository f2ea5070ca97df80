/-
  RateBack: the plain law. No program.
-/
import Derived.Test.YtpebcphkockkkaaDoorPureF2
import Derived.Test.YtpebcphkockkkaaDoorPFx6
namespace Go.Proofs.YtpebcphkockkkaaDoor.Hand
open Go.RowKit Go.Proofs.YtpebcphkockkkaaDoorW.PrintWords Go.Proofs.YtpebcphkockkkaaDoorW.PrintLast Go.Proofs.YtpebcphkockkkaaDoorW.PrintMore Go.Proofs.YtpebcphkockkkaaDoor.PA Go.Proofs.YtpebcphkockkkaaDoor.PB Go.Proofs.YtpebcphkockkkaaDoor.PD Go.Proofs.YtpebcphkockkkaaDoor.PE Go.Proofs.YtpebcphkockkkaaDoor.PF
set_option linter.unusedSimpArgs false
set_option linter.unusedVariables false
set_option exponentiation.threshold 3000

/-- A fraction that may be, told by its parts. -/
structure Fr (n d : Int) (m k : Nat) : Prop where
  may : rate_May.f n d = some true
  hk : k ≤ 20
  hd : d = 2 ^ k
  hn : n = (m : Int)
  hm : m ≤ 1024 * 2 ^ k
  odd : k = 0 ∨ m % 2 = 1
theorem fr_of {n d : Int} (h : rate_May.f n d = some true) (hn : U64 n) (hd : U64 d) : ∃ m k, Fr n d m k := by
  obtain ⟨k, hk, e, h2⟩ := may_pow h hd.1
  obtain ⟨m, rfl⟩ := Int.eq_ofNat_of_zero_le hn.1
  refine ⟨m, k, h, hk, e, rfl, ?_, ?_⟩
  · have : ((1024 * 2 ^ k : Nat) : Int) = 1024 * d := by rw [e, Int.natCast_mul, Int.natCast_pow]; rfl
    omega
  · have h' := h
    obtain ⟨p1, p2⟩ := pow_20 k hk
    obtain ⟨f1, f2, f3⟩ := pop21 ⟨k, by omega⟩
    dsimp only at f1 f2 f3
    subst e
    unfold rate_May.f at h'
    rw [f1, Option.bind_some, if_pos rfl, if_pos p2, f3, if_pos h2, and_one _ hn] at h'
    by_cases q : (2 : Int) ^ k = 1
    · left
      rcases Nat.eq_zero_or_pos k with g | g
      · exact g
      · have : (2 : Nat) ^ 1 ≤ 2 ^ k := Nat.pow_le_pow_right (by decide) g
        have e2 : ((2 ^ k : Nat) : Int) = 2 ^ k := by rw [Int.natCast_pow]; rfl
        omega
    · rw [if_neg q] at h'
      right
      have h'' := Option.some.inj h'
      have := eq_of_beq h''
      omega
theorem ctz_pow {m c : Nat} (h : m % 2 = 1) : ∀ f, c < f → Lib.ctzFrom f (m * 2 ^ c) = c := by
  induction c with
  | zero =>
    intro f hf
    obtain ⟨g, rfl⟩ : ∃ g, f = g + 1 := ⟨f - 1, by omega⟩
    unfold Lib.ctzFrom
    rw [if_pos (by rw [Nat.pow_zero, Nat.mul_one]; exact h)]
  | succ c ih =>
    intro f hf
    obtain ⟨g, rfl⟩ : ∃ g, f = g + 1 := ⟨f - 1, by omega⟩
    have e : m * 2 ^ (c + 1) = 2 * (m * 2 ^ c) := by rw [Nat.pow_succ, ← Nat.mul_assoc, Nat.mul_comm]
    have ih := ih g (by omega)
    unfold Lib.ctzFrom
    rw [e, if_neg (by omega), Nat.mul_div_cancel_left _ (by decide), ih]; omega
theorem odd_part (m : Nat) : 0 < m → ∃ a c, a % 2 = 1 ∧ m = a * 2 ^ c := by
  induction m using Nat.strongRecOn with
  | _ m ih =>
    intro h0
    rcases Nat.mod_two_eq_zero_or_one m with g | g
    · obtain ⟨a, c, ha, e⟩ := ih (m / 2) (by omega) (by omega)
      exact ⟨a, c + 1, ha, by rw [Nat.pow_succ, ← Nat.mul_assoc, ← e]; omega⟩
    · exact ⟨m, 0, g, by simp⟩
/-- What comes back of a fraction's float. -/
theorem by_back {m k : Nat} (hk : k ≤ 20) (odd : k = 0 ∨ m % 2 = 1) : byOf (m * 2 ^ (20 - k)) = 20 - k := by
  rcases Nat.eq_zero_or_pos m with h0 | h0
  · subst h0
    have : k = 0 := by rcases odd with h | h <;> omega
    subst this; decide +kernel
  · rcases Nat.mod_two_eq_zero_or_one m with h | h
    · have hk0 : k = 0 := by omega
      subst hk0
      obtain ⟨a, c, ha, e⟩ := odd_part m h0
      rw [e, Nat.mul_assoc, ← Nat.pow_add]
      rw [← lb_by, lb_ctz 20 (c + 20 + 1) _ (by omega), ctz_pow ha _ (by omega)]; omega
    · rw [← lb_by, lb_ctz 20 64 _ (by omega), ctz_pow h _ (by omega)]; omega
theorem vl1024 : vl 4652218415073722368 = 1024 * 2 ^ 1074 := by decide +kernel
/-- A fraction's float: its value; and what is read from it. -/
theorem float_back {n d : Int} {m k : Nat} (F : Fr n d m k) : ∃ w, rate_Speed_Float.f n d = some w ∧ w ≤ 4652218415073722368 ∧ vl w = m * 2 ^ (1074 - k) ∧ ofV w = (n, d, 0) := by
  obtain ⟨may, hk, rfl, rfl, hm, odd⟩ := F
  obtain ⟨p1, p2⟩ := pow_20 k hk
  have p3 : (2 : Nat) ^ k ≤ 2 ^ 20 := Nat.pow_le_pow_right (by decide) hk
  have p4 : (2 : Nat) ^ 20 = 1048576 := by decide
  have hw : ∃ w, dbl.div (floatOfInt .f64 (m : Int)) (floatOfInt .f64 (2 ^ k)) = some w ∧ vl w = m * 2 ^ (1074 - k) ∧ w < 9218868437227405312 := by
    by_cases h0 : m = 0
    · subst h0
      exact ⟨0, div_zero_pow ⟨k, by omega⟩, by rw [Nat.zero_mul]; decide +kernel, by decide⟩
    · obtain ⟨w, a, b, _, c⟩ := div_pow hk h0 (by omega)
      exact ⟨w, a, b, c⟩
  obtain ⟨w, hd, hv, hlt⟩ := hw
  have h1024 : w ≤ 4652218415073722368 := by
    rcases Nat.lt_or_ge 4652218415073722368 w with g | g
    · have := vl_mono g
      rw [vl1024, hv] at this
      have h2 : m * 2 ^ (1074 - k) ≤ 1024 * 2 ^ k * 2 ^ (1074 - k) := Nat.mul_le_mul_right _ hm
      rw [Nat.mul_assoc, ← Nat.pow_add, show k + (1074 - k) = 1074 by omega] at h2
      exact absurd (Nat.lt_of_lt_of_le this h2) (Nat.lt_irrefl _)
    · exact g
  have hx : ex w ≤ 1032 := by unfold ex; omega
  have hnof : nOf w = m * 2 ^ (20 - k) := by
    have e1 : mg w = m * 2 ^ (20 - k) * 2 ^ (1054 - ex w) := by
      have e : mg w * 2 ^ ex w = m * 2 ^ (20 - k) * 2 ^ (1054 - ex w) * 2 ^ ex w := by
        show vl w = _
        rw [hv, Nat.mul_assoc, Nat.mul_assoc, ← Nat.pow_add, ← Nat.pow_add]
        congr 2; omega
      exact Nat.eq_of_mul_eq_mul_right (Nat.two_pow_pos _) e
    unfold nOf
    rw [e1]
    exact rne_mul _ _ (Nat.two_pow_pos _)
  refine ⟨w, ?_, h1024, hv, ?_⟩
  · unfold rate_Speed_Float.f
    rw [may, Option.bind_some]
    exact (if_pos rfl).trans hd
  · have hn : nanB w = false := pos_nan (by omega)
    have hz : ¬ (nOf w = 0 ∧ 0 < w) := by
      rintro ⟨a, b⟩
      rw [hnof] at a
      have hm0 : m = 0 := by
        rcases Nat.eq_zero_or_pos m with g | g
        · exact g
        · have := Nat.mul_pos g (Nat.two_pow_pos (20 - k)); omega
      have := vl_mono b
      rw [hv, hm0, Nat.zero_mul] at this
      omega
    unfold ofV
    rw [hn, if_neg (by decide), if_neg (by omega), if_neg (by omega), if_neg hz, hnof, by_back hk odd, Nat.mul_div_cancel _ (Nat.two_pow_pos _), show 20 - (20 - k) = k by omega]

theorem rk_pos {w : Nat} (h : w ≤ 9218868437227405312) : rk (canonV w) = w + 9223372036854775808 := by
  rw [(canon_ne (pos_nan h)).1]
  unfold rk
  exact if_neg (by omega)
theorem word_lt {w1 w2 m1 m2 k1 k2 : Nat} (h1 : k1 ≤ 20) (h2 : k2 ≤ 20) (v1 : vl w1 = m1 * 2 ^ (1074 - k1)) (v2 : vl w2 = m2 * 2 ^ (1074 - k2)) : w2 < w1 ↔ m2 * 2 ^ k1 < m1 * 2 ^ k2 := by
  have e1 : m2 * 2 ^ k1 * 2 ^ (1074 - k1 - k2) = vl w2 := by
    rw [v2, Nat.mul_assoc, ← Nat.pow_add, show k1 + (1074 - k1 - k2) = 1074 - k2 by omega]
  have e2 : m1 * 2 ^ k2 * 2 ^ (1074 - k1 - k2) = vl w1 := by
    rw [v1, Nat.mul_assoc, ← Nat.pow_add, show k2 + (1074 - k1 - k2) = 1074 - k1 by omega]
  have p := Nat.two_pow_pos (1074 - k1 - k2)
  generalize (2 : Nat) ^ (1074 - k1 - k2) = P at *
  clear v1 v2
  constructor
  · intro h
    have := vl_mono h
    rw [← e1, ← e2] at this
    exact Nat.lt_of_mul_lt_mul_right this
  · intro h
    have h3 : m2 * 2 ^ k1 * P < m1 * 2 ^ k2 * P := Nat.mul_lt_mul_of_pos_right h p
    rw [e1, e2] at h3
    rcases Nat.lt_or_ge w2 w1 with g | g
    · exact g
    · have := vl_le g; omega
theorem back_j2 (K : Nat) {n d n2 d2 x p : Int} {m k m2 k2 : Nat} (F : Fr n d m k) (G : Fr n2 d2 m2 k2) (hxp : n * d2 > n2 * d → x ≥ p) : tiklaw1_RateBack.j2 (K + 1) x p false n d n2 d2 = some true := by
  obtain ⟨w1, f1, l1, v1, _⟩ := float_back F
  obtain ⟨w2, f2, l2, v2, _⟩ := float_back G
  obtain ⟨_, hk, rfl, rfl, hm, _⟩ := F
  obtain ⟨_, hk2, rfl, rfl, hm2, _⟩ := G
  have hw := word_lt hk hk2 v1 v2
  have p3 : (2 : Nat) ^ k ≤ 2 ^ 20 := Nat.pow_le_pow_right (by decide) hk
  have p4 : (2 : Nat) ^ k2 ≤ 2 ^ 20 := Nat.pow_le_pow_right (by decide) hk2
  have p5 : (2 : Nat) ^ 20 = 1048576 := by decide
  have b1 : m * 2 ^ k2 ≤ 1073741824 * 1048576 := Nat.mul_le_mul (by omega) (by omega)
  have b2 : m2 * 2 ^ k ≤ 1073741824 * 1048576 := Nat.mul_le_mul (by omega) (by omega)
  have e1 : (m : Int) * 2 ^ k2 = ((m * 2 ^ k2 : Nat) : Int) := by rw [Int.natCast_mul, Int.natCast_pow]; rfl
  have e2 : (m2 : Int) * 2 ^ k = ((m2 * 2 ^ k : Nat) : Int) := by rw [Int.natCast_mul, Int.natCast_pow]; rfl
  have o := order_f (a := w1) (b := w2) (by omega) (by omega)
  rw [rk_pos (by omega), rk_pos (by omega)] at o
  rw [e1, e2] at hxp
  rw [tiklaw1_RateBack.j2, if_neg (by decide), rfirst_true, Option.bind_some, if_pos rfl, f1, f2, e1, e2]
  clear f1 f2 v1 v2 e1 e2 hm hm2 p3 p4
  generalize m * 2 ^ k2 = A at *
  generalize m2 * 2 ^ k = B at *
  have wA : IntKind.u64.wrap (A : Int) = (A : Int) := IntWalk.u64_in _ ⟨by omega, by omega⟩
  have wB : IntKind.u64.wrap (B : Int) = (B : Int) := IntWalk.u64_in _ ⟨by clear wA; omega, by clear wA; omega⟩
  rw [wA, wB]
  clear wA wB
  simp only [Option.bind_some]
  rw [o, Option.bind_some]
  by_cases q : (A : Int) > (B : Int)
  · have hlt : w2 < w1 := hw.2 (by omega)
    have ev : cmpV ((w1 + 9223372036854775808 : Nat) : Int) ((w2 + 9223372036854775808 : Nat) : Int) = 1 := by
      unfold cmpV; rw [if_neg (by omega), if_pos (by omega)]
    rw [if_pos q, if_pos (hxp q), ev, decide_eq_true q]; rfl
  · have hnl : ¬ w2 < w1 := fun h => q (by have := hw.1 h; omega)
    have ev : (cmpV ((w1 + 9223372036854775808 : Nat) : Int) ((w2 + 9223372036854775808 : Nat) : Int) == 1) = false := by
      unfold cmpV
      by_cases z : ((w1 + 9223372036854775808 : Nat) : Int) < ((w2 + 9223372036854775808 : Nat) : Int)
      · rw [if_pos z]; rfl
      · rw [if_neg z, if_neg (by omega)]; rfl
    rw [if_neg q, ev, decide_eq_false q]; rfl
theorem faster_goes {a n d n2 d2 : Int} (a0 : 0 ≤ a) (hd : 1 ≤ d) (hd2 : 1 ≤ d2) (h : n * d2 > n2 * d) : a * n / d ≥ a * n2 / d2 := by
  have h1 : a * n2 / d2 * d2 ≤ a * n2 := Int.ediv_mul_le _ (by omega)
  show a * n2 / d2 ≤ a * n / d
  rw [Int.le_ediv_iff_mul_le (by omega)]
  generalize a * n2 / d2 = p at *
  have h2 : p * d2 * d ≤ a * n2 * d := Int.mul_le_mul_of_nonneg_right h1 (by omega)
  have h3 : a * (n2 * d) ≤ a * (n * d2) := Int.mul_le_mul_of_nonneg_left (by omega) a0
  have e1 : p * d2 * d = p * d * d2 := by rw [Int.mul_assoc, Int.mul_comm d2, ← Int.mul_assoc]
  have e2 : a * n2 * d = a * (n2 * d) := by rw [Int.mul_assoc]
  have e3 : a * (n * d2) = a * n * d2 := by rw [Int.mul_assoc]
  have h4 : p * d * d2 ≤ a * n * d2 := by omega
  exact Int.le_of_mul_le_mul_right h4 (by omega)
theorem back_j1 (K : Nat) {n d n2 d2 a b : Int} {m k m2 k2 : Nat} (F : Fr n d m k) (G : Fr n2 d2 m2 k2) (S : Sp n d) (S2 : Sp n2 d2) (a0 : 0 ≤ a) (a1 : a ≤ 1073741824) (b0 : 0 ≤ b) (b1 : b ≤ 1073741824) : tiklaw1_RateBack.j1 (K + 1 + 1) a b false n d n2 d2 = some true := by
  obtain ⟨_, _, _, hn2⟩ := may_pow S.may (by have := S.d1; omega)
  obtain ⟨_, _, _, hm2⟩ := may_pow S2.may (by have := S2.d1; omega)
  have hd := S.d1
  have hd' := S.d2
  have hg := S2.d1
  have hg' := S2.d2
  have j := fun x p h => back_j2 K (x := x) (p := p) F G h
  have hf := fun h => faster_goes (n := n) (n2 := n2) a0 hd hg h
  have w := IntWalk.u64_in (a + b) ⟨by omega, by omega⟩
  have B1 := small_scale hd hn2 S.n0 a0 (by clear w; omega)
  have B3 := small_scale (t := a + b) hd hn2 S.n0 (by clear w; omega) (by clear w; omega)
  have B4 := small_scale hg hm2 S2.n0 a0 (by clear w; omega)
  have e3 : (a + b) * n = a * n + b * n := Int.add_mul _ _ _
  have hA : 0 ≤ a * n := Int.mul_nonneg a0 S.n0
  have hB : 0 ≤ b * n := Int.mul_nonneg b0 S.n0
  have dm : d * (a * n / d) + a * n % d = a * n := Int.mul_ediv_add_emod _ _
  have r0 : 0 ≤ a * n % d := Int.emod_nonneg _ (by clear w; omega)
  have r1 : a * n % d < d := Int.emod_lt_of_pos _ (by clear w; omega)
  have q3 : (a * n + b * n) / d = a * n / d + (b * n + a * n % d) / d := by
    have : a * n + b * n = (b * n + a * n % d) + d * (a * n / d) := by clear w; omega
    rw [this, Int.add_mul_ediv_left _ _ (by clear w; omega)]; clear w; omega
  have r3 : (a * n + b * n) % d = (b * n + a * n % d) % d := by
    have : a * n + b * n = (b * n + a * n % d) + d * (a * n / d) := by clear w; omega
    rw [this, Int.add_mul_emod_self_left]
  have Q2 : 0 ≤ (b * n + a * n % d) / d := Int.ediv_nonneg (by clear w; omega) (by clear w; omega)
  rw [e3] at B3
  have s1 : rate_Scale.f a 0 n d = some (a * n / d, a * n % d, 0) := by
    rw [scale_f S ⟨a0, by clear w; omega⟩ (by omega) (by clear w; omega)]
    have := scaleV_small (t := a) (r := 0) (n := n) (d := d) (by rw [Int.add_zero]; clear w; omega)
    rw [Int.add_zero] at this; rw [this]
  have s2 : rate_Scale.f b (a * n % d) n d = some ((b * n + a * n % d) / d, (b * n + a * n % d) % d, 0) := by
    rw [scale_f S ⟨b0, by clear w; omega⟩ r0 r1, scaleV_small (by clear w; omega)]
  have s3 : rate_Scale.f (a + b) 0 n d = some ((a * n + b * n) / d, (a * n + b * n) % d, 0) := by
    rw [scale_f S ⟨by clear w; omega, by clear w; omega⟩ (by omega) (by clear w; omega)]
    have := scaleV_small (t := a + b) (r := 0) (n := n) (d := d) (by rw [Int.add_zero, e3]; clear w; omega)
    rw [Int.add_zero, e3] at this; rw [this]
  have s4 : rate_Scale.f a 0 n2 d2 = some (a * n2 / d2, a * n2 % d2, 0) := by
    rw [scale_f S2 ⟨a0, by clear w; omega⟩ (by omega) (by clear w; omega)]
    have := scaleV_small (t := a) (r := 0) (n := n2) (d := d2) (by rw [Int.add_zero]; clear w; omega)
    rw [Int.add_zero] at this; rw [this]
  have w2 : IntKind.u64.wrap (a * n / d + (b * n + a * n % d) / d) = (a * n + b * n) / d := by
    rw [← q3]
    exact IntWalk.u64_in _ ⟨by clear w; omega, by clear w; omega⟩
  rw [tiklaw1_RateBack.j1, if_neg (by decide), s1, Option.bind_some]
  show (rate_Scale.f b (a * n % d) n d).bind _ = _
  rw [s2, Option.bind_some, w, s3, Option.bind_some, s4, Option.bind_some]
  refine (if_pos rfl).trans ((if_pos rfl).trans ((if_pos rfl).trans ((if_pos rfl).trans ((if_pos w2).trans ((if_pos r3.symm).trans ?_)))))
  show tiklaw1_RateBack.j2 (K + 1) (a * n / d) (a * n2 / d2) (decide (a * n % d ≥ d)) n d n2 d2 = _
  rw [decide_eq_false (by clear w w2; omega)]
  exact j _ _ hf
theorem back_jt (K : Nat) (x y z1 z2 z3 z4 : Int) : tiklaw1_RateBack.j0 (K + 1) x y true z1 z2 z3 z4 = some true := by
  rw [tiklaw1_RateBack.j0, if_pos rfl, rfirst_true]; rfl
theorem back_j0 (K : Nat) {n d n2 d2 a b : Int} {m k m2 k2 : Nat} (F : Fr n d m k) (G : Fr n2 d2 m2 k2) (S : Sp n d) (S2 : Sp n2 d2) (a0 : 0 ≤ a) (a1 : a ≤ 1073741824) (b0 : 0 ≤ b) (b1 : b ≤ 1073741824) : tiklaw1_RateBack.j0 (K + 1 + 1 + 1) a b false n d n2 d2 = some true := by
  obtain ⟨w, f1, l1, v1, o1⟩ := float_back F
  have ho : rate_Of.f w = some (n, d, 0) := by unfold rate_Of.f; rw [if_pos (by clear v1; omega), o1]
  rw [tiklaw1_RateBack.j0, if_neg (by decide), f1, Option.bind_some, ho, Option.bind_some]
  refine (if_pos rfl).trans ?_
  show tiklaw1_RateBack.j1 (K + 1 + 1) a b (!(n == n) || !(d == d)) n d n2 d2 = _
  rw [beq_self_eq_true, beq_self_eq_true]
  exact back_j1 K F G S S2 a0 a1 b0 b1
theorem back_any (K : Nat) {n d n2 d2 a b : Int} (hn : U64 n) (hd : U64 d) (hn2 : U64 n2) (hd2 : U64 d2) (ha : U64 a) (hb : U64 b) : tiklaw1_RateBack.f (K + 1 + 1 + 1) n d n2 d2 a b = some true := by
  obtain ⟨x, hM⟩ := may_any n d
  obtain ⟨y, hM2⟩ := may_any n2 d2
  unfold tiklaw1_RateBack.f
  rw [rfirst_true, Option.bind_some, if_pos rfl, hM, Option.bind_some]
  cases x with
  | false => rw [if_neg (by decide)]; exact back_jt _ _ _ _ _ _ _
  | true =>
    rw [if_pos rfl, hM2, Option.bind_some]
    cases y with
    | false => rw [if_neg (by decide)]; exact back_jt _ _ _ _ _ _ _
    | true =>
      rw [if_pos rfl]
      by_cases q : a > 1073741824
      · rw [if_pos q]; exact back_jt _ _ _ _ _ _ _
      · rw [if_neg q]
        by_cases q2 : b > 1073741824
        · rw [decide_eq_true q2]; exact back_jt _ _ _ _ _ _ _
        · rw [decide_eq_false q2]
          obtain ⟨m, k, F⟩ := fr_of hM hn hd
          obtain ⟨m2, k2, G⟩ := fr_of hM2 hn2 hd2
          exact back_j0 K F G (sp_of hM hn.1 hd.1) (sp_of hM2 hn2.1 hd2.1) ha.1 (by omega) hb.1 (by omega)
end Go.Proofs.YtpebcphkockkkaaDoor.Hand
