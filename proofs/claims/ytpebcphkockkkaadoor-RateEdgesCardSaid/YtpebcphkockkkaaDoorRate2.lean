/-
  rate.Scale: how far ticks go at a speed.
-/
import Derived.Test.YtpebcphkockkkaaDoorPureR2
import Derived.Shelf.Bits.Mul64
namespace Go.Proofs.YtpebcphkockkkaaDoor.Hand
open Go.RowKit Go.Proofs.YtpebcphkockkkaaDoorW.PrintWords Go.Proofs.YtpebcphkockkkaaDoorW.PrintLast Go.Proofs.YtpebcphkockkkaaDoorW.PrintMore Go.Proofs.YtpebcphkockkkaaDoor.PA Go.Proofs.YtpebcphkockkkaaDoor.PB

theorem laysMul : Lays.n264 Tryd.prog rhoLZ := by
  constructor
  all_goals first | kernel_rfl | (intro w; kernel_rfl) | (intro w; rfl)
theorem mul64_any (x y : Int) (h0 : 0 ≤ x) (h1 : x < 18446744073709551616) (h2 : 0 ≤ y) (h3 : y < 18446744073709551616) (w : World) :
    Calls Tryd.prog 43 #[.int .u64 x, .int .u64 y] w fun e w' => e = .returned (.tuple #[.int .u64 (x * y / 18446744073709551616), .int .u64 (x * y % 18446744073709551616)]) ∧ w' = w := by
  obtain ⟨a, rfl⟩ := Int.eq_ofNat_of_zero_le h0
  obtain ⟨b, rfl⟩ := Int.eq_ofNat_of_zero_le h2
  refine (Any.bits_Mul64 laysMul a b (by omega) (by omega) w).mono ?_
  rintro e w' ⟨rfl, rfl⟩
  refine ⟨?_, rfl⟩
  have e1 : ((a * b / 18446744073709551616 : Nat) : Int) = (a : Int) * b / 18446744073709551616 := by rw [Int.natCast_ediv, Int.natCast_mul]; rfl
  have e2 : ((a * b % 18446744073709551616 : Nat) : Int) = (a : Int) * b % 18446744073709551616 := by rw [Int.natCast_emod, Int.natCast_mul]; rfl
  rw [e1, e2]
theorem blk_old {w w' : World} {g : Nat} {o : Obj} (h : w.heap[g]? = some o) (hb : Below w.heap.size w w') : w'.heap[g]? = some o := (hb.block g (blk_lt h)).trans h
theorem one_new (w : World) (o : Obj) : ∃ W, w.alloc o = W ∧ W.heap[w.heap.size]? = some o ∧ Below w.heap.size w W :=
  ⟨_, rfl, by simpa using heap_alloc_new w o, below_alloc (Below.refl _ _) _⟩
theorem below_mono {w W W1 : World} (h : Below w.heap.size w W) (k : Below W.heap.size W W1) : Below w.heap.size W W1 := ⟨k.os, k.tape, k.output, k.size, fun i hi => k.block i (Nat.lt_of_lt_of_le hi h.size)⟩
/-- What Scale comes to. -/
def scaleV (t r n d : Int) : Int × Int × Int := if (t * n + r) / d > 4611686018427387904 then (0, 0, 1) else ((t * n + r) / d, (t * n + r) % d, 0)
def U64 (x : Int) : Prop := 0 ≤ x ∧ x < 18446744073709551616
theorem scale_no {w : World} (t r n d : Int) (h : rate_May.f n d = some false) :
    Calls Tryd.prog 22 #[.int .u64 t, .int .u64 r, .agg #[.int .u64 n, .int .u64 d]] w fun e w' => e = .returned (.tuple #[.int .u64 0, .int .u64 0, .int .i64 1]) ∧ Below w.heap.size w w' := by
  obtain ⟨W, hW, b0, hWb⟩ := one_new w (.cells #[.int .u64 n, .int .u64 d] 26)
  have HW := Aside0.mk hW
  have HWb := Aside0.mk hWb
  have HM := Aside0.mk (rate_May.calls n d false W h)
  have c0 := blk_cell b0 0
  have c1 := blk_cell b0 1
  clear hW hWb h b0
  go_enter Tryd.func22, Tryd.ntmps22
  go_wp2_with fail
  rw [HW.out]
  refine HM.out.mono ?_
  rintro en w1 ⟨rfl, hb1⟩
  go_wp2
  go_ret3
  exact ⟨rfl, Below.trans HWb.out (below_mono HWb.out hb1)⟩
theorem scale_rest {w : World} (t r n d : Int) (h : rate_May.f n d = some true) (hrd : decide (r ≥ d) = true) :
    Calls Tryd.prog 22 #[.int .u64 t, .int .u64 r, .agg #[.int .u64 n, .int .u64 d]] w fun e w' => e = .returned (.tuple #[.int .u64 0, .int .u64 0, .int .i64 1]) ∧ Below w.heap.size w w' := by
  obtain ⟨W, hW, b0, hWb⟩ := one_new w (.cells #[.int .u64 n, .int .u64 d] 26)
  have HW := Aside0.mk hW
  have HWb := Aside0.mk hWb
  have B0 := Aside0.mk b0
  have HM := Aside0.mk (rate_May.calls n d true W h)
  clear hW hWb h b0
  go_enter Tryd.func22, Tryd.ntmps22
  go_wp2_with fail
  rw [HW.out]
  refine HM.out.mono ?_
  rintro en w1 ⟨rfl, hb1⟩
  have b1 := blk_old B0.out hb1
  have c0 := (blk_cell b1 0).trans (show _ = some (Value.int .u64 n) from rfl)
  have c1 := (blk_cell b1 1).trans (show _ = some (Value.int .u64 d) from rfl)
  have HB1 := Aside0.mk hb1
  clear b1 hb1
  go_wp2
  go_ret3
  exact ⟨rfl, Below.trans HWb.out (below_mono HWb.out HB1.out)⟩
theorem scale_yes {w : World} (t r n d hi lo lo2 cy hi2 : Int) (h : rate_May.f n d = some true) (ht : U64 t) (hr : U64 r) (hn : U64 n) (hd : U64 d)
    (R : Int × Int × Int) (e1 : Aside0 (t * n / 18446744073709551616 = hi)) (e2 : Aside0 (t * n % 18446744073709551616 = lo)) (e3 : Aside0 ((lo + r) % 18446744073709551616 = lo2)) (e4 : Aside0 ((lo + r) / 18446744073709551616 = cy))
    (e5 : IntKind.u64.wrap (hi + cy) = hi2) (hrd : decide (r ≥ d) = false) (hhd : decide (hi2 ≥ d) = true) :
    Calls Tryd.prog 22 #[.int .u64 t, .int .u64 r, .agg #[.int .u64 n, .int .u64 d]] w fun e w' => e = .returned (.tuple #[.int .u64 0, .int .u64 0, .int .i64 1]) ∧ Below w.heap.size w w' := by
  obtain ⟨W, hW, b0, hWb⟩ := one_new w (.cells #[.int .u64 n, .int .u64 d] 26)
  have HW := Aside0.mk hW
  have HWb := Aside0.mk hWb
  have B0 := Aside0.mk b0
  have HM := Aside0.mk (rate_May.calls n d true W h)
  have HX : Aside0 (∀ w, Calls Tryd.prog 43 #[.int .u64 t, .int .u64 n] w fun e w' => e = .returned (.tuple #[.int .u64 hi, .int .u64 lo]) ∧ w' = w) := ⟨fun w => by
    have := mul64_any t n ht.1 ht.2 hn.1 hn.2 w
    rw [e1.out, e2.out] at this
    exact this⟩
  have ha : ∀ w, (callFunc 44 #[.int .u64 lo, .int .u64 r, .int .u64 0]).run Tryd.prog w = .ok (.value (.tuple #[.int .u64 lo2, .int .u64 cy])) w := fun w => by
    have := add64_run lo r (by rw [← e2.out]; omega) (by rw [← e2.out]; omega) hr.1 hr.2 w
    rw [e3.out, e4.out] at this
    exact this
  clear hW hWb h b0 ht hr hn hd
  go_enter Tryd.func22, Tryd.ntmps22
  go_wp2_with fail
  rw [HW.out]
  refine HM.out.mono ?_
  rintro en w1 ⟨rfl, hb1⟩
  have b1 := blk_old B0.out hb1
  have c0 := (blk_cell b1 0).trans (show _ = some (Value.int .u64 n) from rfl)
  have c1 := (blk_cell b1 1).trans (show _ = some (Value.int .u64 d) from rfl)
  have HB1 := Aside0.mk hb1
  clear b1 hb1
  go_wp2_with fail
  refine (HX.out _).mono ?_
  rintro en w2 ⟨rfl, rfl⟩
  go_wp2_with (simp only [ha])
  go_ret3
  exact ⟨rfl, Below.trans HWb.out (below_mono HWb.out HB1.out)⟩
theorem scale_div {w : World} (t r n d hi lo lo2 cy hi2 : Int) (h : rate_May.f n d = some true) (ht : U64 t) (hr : U64 r) (hn : U64 n) (hd : U64 d)
    (R : Int × Int × Int) (big : Bool) (e1 : Aside0 (t * n / 18446744073709551616 = hi)) (e2 : Aside0 (t * n % 18446744073709551616 = lo)) (e3 : Aside0 ((lo + r) % 18446744073709551616 = lo2)) (e4 : Aside0 ((lo + r) / 18446744073709551616 = cy))
    (e5 : IntKind.u64.wrap (hi + cy) = hi2) (hrd : decide (r ≥ d) = false) (hhd : decide (hi2 ≥ d) = false) (q m : Int) (hD : bits_Div64.f 10 hi2 lo2 d = some (q, m)) (hq : decide (q > 4611686018427387904) = big) (big_ : R = if big = true then (0, 0, 1) else (q, m, 0)) :
    Calls Tryd.prog 22 #[.int .u64 t, .int .u64 r, .agg #[.int .u64 n, .int .u64 d]] w fun e w' => e = .returned (.tuple #[.int .u64 R.1, .int .u64 R.2.1, .int .i64 R.2.2]) ∧ Below w.heap.size w w' := by
  obtain ⟨W, hW, b0, hWb⟩ := one_new w (.cells #[.int .u64 n, .int .u64 d] 26)
  have HW := Aside0.mk hW
  have HWb := Aside0.mk hWb
  have B0 := Aside0.mk b0
  have HM := Aside0.mk (rate_May.calls n d true W h)
  have HX : Aside0 (∀ w, Calls Tryd.prog 43 #[.int .u64 t, .int .u64 n] w fun e w' => e = .returned (.tuple #[.int .u64 hi, .int .u64 lo]) ∧ w' = w) := ⟨fun w => by
    have := mul64_any t n ht.1 ht.2 hn.1 hn.2 w
    rw [e1.out, e2.out] at this
    exact this⟩
  have ha : ∀ w, (callFunc 44 #[.int .u64 lo, .int .u64 r, .int .u64 0]).run Tryd.prog w = .ok (.value (.tuple #[.int .u64 lo2, .int .u64 cy])) w := fun w => by
    have := add64_run lo r (by rw [← e2.out]; omega) (by rw [← e2.out]; omega) hr.1 hr.2 w
    rw [e3.out, e4.out] at this
    exact this
  have HD := Aside0.mk (fun w => bits_Div64.calls 10 hi2 lo2 d q m w hD)
  clear hW hWb h b0 ht hr hn hd hD
  go_enter Tryd.func22, Tryd.ntmps22
  go_wp2_with fail
  rw [HW.out]
  refine HM.out.mono ?_
  rintro en w1 ⟨rfl, hb1⟩
  have b1 := blk_old B0.out hb1
  have c0 := (blk_cell b1 0).trans (show _ = some (Value.int .u64 n) from rfl)
  have c1 := (blk_cell b1 1).trans (show _ = some (Value.int .u64 d) from rfl)
  have HB1 := Aside0.mk hb1
  clear b1 hb1
  go_wp2_with fail
  refine (HX.out _).mono ?_
  rintro en w2 ⟨rfl, rfl⟩
  go_wp2_with (first | simp only [ha] | fail)
  refine (HD.out _).mono ?_
  rintro en w3 ⟨rfl, ⟨nd, rfl⟩⟩
  cases big
  · go_wp2
    go_ret3
    rw [big_]
    exact ⟨rfl, Below.trans HWb.out (below_mono HWb.out (pw_below_drewN HB1.out nd))⟩
  · go_wp2
    go_ret3
    rw [big_]
    exact ⟨rfl, Below.trans HWb.out (below_mono HWb.out (pw_below_drewN HB1.out nd))⟩
theorem may_pow {n d : Int} (h : rate_May.f n d = some true) (hd : 0 ≤ d) : ∃ k : Nat, k ≤ 20 ∧ d = 2 ^ k ∧ n ≤ 1024 * d := by
  unfold rate_May.f at h
  obtain ⟨x, rfl⟩ := Int.eq_ofNat_of_zero_le hd
  by_cases q1 : (x : Int) ≤ 1048576
  · have hx : x < 2097152 := by omega
    rw [pop_nat x hx, Option.bind_some] at h
    by_cases q2 : ((popN x : Nat) : Int) = 1
    · rw [if_pos q2, if_pos q1] at h
      obtain ⟨k, hk, e⟩ := pop_one x hx (by omega)
      have ew : IntKind.u64.wrap (1024 * (x : Int)) = 1024 * (x : Int) := IntWalk.u64_in _ (by omega)
      rw [ew] at h
      by_cases q3 : n ≤ 1024 * (x : Int)
      · exact ⟨k, hk, by rw [e]; simp, q3⟩
      · rw [if_neg q3] at h; simp at h
    · rw [if_neg q2] at h; simp at h
  · cases ho : bits_OnesCount64.f (x : Int) with
    | none => rw [ho] at h; simp at h
    | some c =>
      rw [ho, Option.bind_some] at h
      by_cases q2 : c = 1
      · rw [if_pos q2, if_neg q1] at h; simp at h
      · rw [if_neg q2] at h; simp at h
theorem pow_20 (k : Nat) (hk : k ≤ 20) : (1 : Int) ≤ 2 ^ k ∧ (2 : Int) ^ k ≤ 1048576 := by
  have : k = 0 ∨ k = 1 ∨ k = 2 ∨ k = 3 ∨ k = 4 ∨ k = 5 ∨ k = 6 ∨ k = 7 ∨ k = 8 ∨ k = 9 ∨ k = 10 ∨ k = 11 ∨ k = 12 ∨ k = 13 ∨ k = 14 ∨ k = 15 ∨ k = 16 ∨ k = 17 ∨ k = 18 ∨ k = 19 ∨ k = 20 := by omega
  rcases this with rfl | rfl | rfl | rfl | rfl | rfl | rfl | rfl | rfl | rfl | rfl | rfl | rfl | rfl | rfl | rfl | rfl | rfl | rfl | rfl | rfl <;> simp
theorem mod_pow (k : Nat) (hk : k ≤ 20) (a b : Int) : (a * 18446744073709551616 + b) % 2 ^ k = b % 2 ^ k := by
  have : k = 0 ∨ k = 1 ∨ k = 2 ∨ k = 3 ∨ k = 4 ∨ k = 5 ∨ k = 6 ∨ k = 7 ∨ k = 8 ∨ k = 9 ∨ k = 10 ∨ k = 11 ∨ k = 12 ∨ k = 13 ∨ k = 14 ∨ k = 15 ∨ k = 16 ∨ k = 17 ∨ k = 18 ∨ k = 19 ∨ k = 20 := by omega
  rcases this with rfl | rfl | rfl | rfl | rfl | rfl | rfl | rfl | rfl | rfl | rfl | rfl | rfl | rfl | rfl | rfl | rfl | rfl | rfl | rfl | rfl
  all_goals
    simp only [Int.reducePow]
    omega
instance (x : Int) : Decidable (U64 x) := by unfold U64; exact inferInstance
def rate_Scale.f (a0 a1 a2_0 a2_1 : Int) : Option (Int × Int × Int) :=
  if U64 a0 ∧ U64 a1 ∧ U64 a2_0 ∧ U64 a2_1 then (rate_May.f a2_0 a2_1).bind fun b => some (if b = true ∧ a1 < a2_1 then scaleV a0 a1 a2_0 a2_1 else (0, 0, 1)) else none
theorem scale_nums (t r n d : Int) (k : Nat) (hk : k ≤ 20) (ed : d = 2 ^ k) (ht : U64 t) (hr : 0 ≤ r) (hrd : r < d) (hn : 0 ≤ n) (hn2 : n ≤ 1024 * d) :
    0 ≤ t * n + r ∧ IntKind.u64.wrap (t * n / 18446744073709551616 + (t * n % 18446744073709551616 + r) / 18446744073709551616) = (t * n + r) / 18446744073709551616 ∧ (t * n % 18446744073709551616 + r) % 18446744073709551616 = (t * n + r) % 18446744073709551616 := by
  obtain ⟨p0, p1⟩ := pow_20 k hk
  rw [← ed] at p0 p1
  have h1 : 0 ≤ t * n := Int.mul_nonneg ht.1 hn
  have h2 : t * n ≤ 18446744073709551615 * 1073741824 := Int.mul_le_mul (by have := ht.2; omega) (by omega) hn (by omega)
  generalize t * n = M at *
  refine ⟨by omega, ?_, by omega⟩
  rw [IntWalk.u64_in _ (by omega)]
  omega
theorem rate_Scale.calls (a0 a1 a2_0 a2_1 : Int) (r1 r2 r3 : Int) (w : World) (h : rate_Scale.f a0 a1 a2_0 a2_1 = some (r1, r2, r3)) :
    Calls Tryd.prog 22 #[.int .u64 a0, .int .u64 a1, .agg #[.int .u64 a2_0, .int .u64 a2_1]] w fun e w' => e = .returned (.tuple #[.int .u64 r1, .int .u64 r2, .int .i64 r3]) ∧ Below w.heap.size w w' := by
  unfold rate_Scale.f at h
  split at h
  case isFalse => cases h
  rename_i hU
  obtain ⟨ht, hr, hn, hd⟩ := hU
  cases hM : rate_May.f a2_0 a2_1 with
  | none => rw [hM] at h; simp at h
  | some b =>
    rw [hM, Option.bind_some] at h
    have h := Option.some.inj h
    cases b with
    | false =>
      rw [if_neg (by simp)] at h
      obtain ⟨rfl, rfl, rfl⟩ : (0 : Int) = r1 ∧ (0 : Int) = r2 ∧ (1 : Int) = r3 := by simpa using h
      exact scale_no a0 a1 a2_0 a2_1 hM
    | true =>
      obtain ⟨k, hk, ed, hn2⟩ := may_pow hM hd.1
      by_cases hrd : a1 < a2_1
      · rw [if_pos ⟨rfl, hrd⟩] at h
        obtain ⟨x0, x1, x2⟩ := scale_nums a0 a1 a2_0 a2_1 k hk ed ht hr.1 hrd hn.1 hn2
        have hdp := (pow_20 k hk).1
        rw [← ed] at hdp
        by_cases hb : (a0 * a2_0 + a1) / 18446744073709551616 ≥ a2_1
        · have hs : scaleV a0 a1 a2_0 a2_1 = (0, 0, 1) := by
            refine if_pos ?_
            have h3 : a2_1 * 18446744073709551616 ≤ a0 * a2_0 + a1 := by
              generalize a0 * a2_0 + a1 = N at *
              omega
            have : 18446744073709551616 ≤ (a0 * a2_0 + a1) / a2_1 := Int.le_ediv_of_mul_le (by omega) (by rw [Int.mul_comm]; exact h3)
            omega
          rw [hs] at h
          obtain ⟨rfl, rfl, rfl⟩ : (0 : Int) = r1 ∧ (0 : Int) = r2 ∧ (1 : Int) = r3 := by simpa using h
          exact scale_yes a0 a1 a2_0 a2_1 _ _ _ _ _ hM ht hr hn hd (0, 0, 1) ⟨rfl⟩ ⟨rfl⟩ ⟨rfl⟩ ⟨rfl⟩ x1 (decide_eq_false (by omega)) (decide_eq_true hb)
        · have hD := div64_pow 5 ((a0 * a2_0 + a1) / 18446744073709551616) ((a0 * a2_0 + a1) % 18446744073709551616) k hk (Int.ediv_nonneg x0 (by omega)) (by rw [← ed]; omega) (Int.emod_nonneg _ (by omega)) (Int.emod_lt_of_pos _ (by omega))
          have eN : (a0 * a2_0 + a1) / 18446744073709551616 * 18446744073709551616 + (a0 * a2_0 + a1) % 18446744073709551616 = a0 * a2_0 + a1 := by
            generalize a0 * a2_0 + a1 = N
            omega
          have eM := mod_pow k hk ((a0 * a2_0 + a1) / 18446744073709551616) ((a0 * a2_0 + a1) % 18446744073709551616)
          rw [eN] at hD eM
          rw [← eM, ← ed, ← x2] at hD
          have hc := scale_div (w := w) a0 a1 a2_0 a2_1 _ _ _ _ _ hM ht hr hn hd (scaleV a0 a1 a2_0 a2_1) (decide ((a0 * a2_0 + a1) / a2_1 > 4611686018427387904)) ⟨rfl⟩ ⟨rfl⟩ ⟨rfl⟩ ⟨rfl⟩ x1 (decide_eq_false (by omega)) (decide_eq_false hb) _ _ hD rfl (by unfold scaleV; by_cases q : (a0 * a2_0 + a1) / a2_1 > 4611686018427387904 <;> simp [q])
          rw [h] at hc
          exact hc
      · rw [if_neg (by simp [hrd])] at h
        obtain ⟨rfl, rfl, rfl⟩ : (0 : Int) = r1 ∧ (0 : Int) = r2 ∧ (1 : Int) = r3 := by simpa using h
        exact scale_rest a0 a1 a2_0 a2_1 hM (decide_eq_true (by omega))
end Go.Proofs.YtpebcphkockkkaaDoor.Hand
