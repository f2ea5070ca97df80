/-
  rate.Of and tikref1.Float, walked.
-/
import Derived.Test.YtpebcphkockkkaaDoorRWalk1
import Derived.Test.YtpebcphkockkkaaDoorPEx1
import Derived.Test.YtpebcphkockkkaaDoorRef1
import Derived.Shelf.Spec.TrailingZeros
import Derived.StillTailTactics
namespace Go.Proofs.YtpebcphkockkkaaDoor.Hand
open Go.RowKit Go.Proofs.YtpebcphkockkkaaDoorW.PrintWords Go.Proofs.YtpebcphkockkkaaDoorW.PrintLast Go.Proofs.YtpebcphkockkkaaDoorW.PrintMore Go.Proofs.YtpebcphkockkkaaDoor.PA Go.Proofs.YtpebcphkockkkaaDoor.PB Go.Proofs.YtpebcphkockkkaaDoor.PD Go.Proofs.YtpebcphkockkkaaDoor.PE
set_option linter.unusedSimpArgs false
set_option linter.unusedVariables false
set_option exponentiation.threshold 3000

theorem to_even (x : Nat) (s : Bool) (m : Nat) (e : Int) (h : dbl.read x = .number s m e) : Extern.MathFloor.toIntegral "math.RoundToEven" .even #[.float .f64 x] = pure (.float .f64 (FloatKind.f64.encode ((Ieee.Datum.number s m e).integral .even))) := by
  have h' : FloatKind.f64.decode x = .number s m e := h
  conv => lhs; whnf
  rw [h']
theorem even_run {x : Nat} {s : Bool} {m : Nat} {e : Int} {z : Nat} (h : dbl.read x = .number s m e) (hz : dbl.write ((Ieee.Datum.number s m e).integral .even) = z) (w : World) : (callFunc 32 #[.float .f64 x]).run Tryd.prog w = .ok (.value (.float .f64 z)) w := by
  rw [run_callFunc_extern Tryd.func32 (by kernel_rfl) (by kernel_rfl) (by kernel_rfl) (e := Extern.MathFloor.toIntegral "math.RoundToEven" .even) (by kernel_rfl), to_even x s m e h, ← hz]
  rfl
def rhoTZ : Shelf.Ren where
  f := fun x => match x with | 29 => 33 | x => x
  t := fun x => match x with | 3 => 3 | 4 => 4 | 5 => 5 | 22 => 22 | 25 => 49 | 54 => 64 | x => x
  g := fun x => match x with | 1 => 1 | x => x
theorem laysTZ : Lays7.n29 Tryd.prog rhoTZ := by
  constructor
  all_goals first | kernel_rfl | (intro w; kernel_rfl) | (intro w; rfl)
/-- What the table of the library holds. -/
def TabW (w : World) : Prop := 1 < w.heap.size ∧ TabAt 1 Lib.deBruijn64tab w
theorem tabAt {w W : World} (h : TabW w) (hb : Below w.heap.size w W) : TabW W :=
  ⟨Nat.lt_of_lt_of_le h.1 hb.size, fun j hj => (Below.cell hb h.1).trans (h.2 j hj)⟩
theorem tz_run (x : Nat) (h : x < 18446744073709551616) (w : World) (hT : TabW w) : Calls Tryd.prog 33 #[.int .u64 (x : Int)] w fun e w' => e = .returned (.int .i64 (Lib.ctz 64 x : Nat)) ∧ w' = w :=
  Any7.bits_TrailingZeros64 laysTZ x h w (fun _ => hT.2)
set_option maxHeartbeats 8000000 in
theorem of_err (b : Nat) (r : Int) (hr : (r != 0) = true) (hS : ∀ w, Calls Tryd.prog 31 #[.float .f64 b] w fun e w' => e = .returned (.int .i64 r) ∧ Below w.heap.size w w') (w : World) :
    Calls Tryd.prog 12 #[.float .f64 b] w fun e w' => e = .returned (.tuple #[.agg #[.int .u64 0, .int .u64 0], .int .i64 r]) ∧ Below w.heap.size w w' := by
  have hu := Tryd.underlying26
  obtain ⟨W, hW, b0, hWb⟩ := one_new w (.cells #[.int .u64 0, .int .u64 0] 26)
  have HW := Aside0.mk hW
  have HWb := Aside0.mk hWb
  have B0 := Aside0.mk b0
  have HS := Aside0.mk hS
  clear hW hWb b0 hS
  go_enter Tryd.func12, Tryd.ntmps12
  go_wp2_with fail
  rw [HW.out]
  go_wp2_with fail
  refine (HS.out _).mono ?_
  rintro en w1 ⟨rfl, hb1⟩
  have b1 := blk_old B0.out hb1
  have c0 : w1.cell? ⟨w.heap.size, 0, none⟩ = some (.int .u64 0) := (blk_cell b1 0).trans rfl
  have c1 : w1.cell? ⟨w.heap.size, 1, none⟩ = some (.int .u64 0) := (blk_cell b1 1).trans rfl
  have f0 := blk_frozen b1 0
  have f1 := blk_frozen b1 1
  have B1 := Aside0.mk b1
  have HB1 := Aside0.mk (Below.trans HWb.out (below_mono HWb.out hb1))
  clear b1 hb1
  go_wp2
  refine bodyPost_ret (results_ct rfl _ _ w.heap.size 26 #[.int .u64 0, .int .u64 0] (0, 0) _ rfl (blk_put (cs := #[.int .u64 0, .int .u64 0]) (blk_put (cs := #[.int .u64 0, .int .u64 0]) B1.out 0 _ rfl) 1 _ rfl) Tryd.underlying26 rfl (by kernel_rfl)) rfl ?_
  exact ⟨rfl, below_set (below_set HB1.out (Nat.le_refl _)) (Nat.le_refl _)⟩
abbrev Ask0 (b : Nat) : Prop := ∀ w, Calls Tryd.prog 31 #[.float .f64 b] w fun e w' => e = .returned (.int .i64 0) ∧ Below w.heap.size w w'
set_option maxHeartbeats 8000000 in
theorem of_big (b : Nat) (hS : Ask0 b) (ho : (FloatKind.f64.format.order b 4652218415073722368 == some Ordering.gt) = true) (w : World) :
    Calls Tryd.prog 12 #[.float .f64 b] w fun e w' => e = .returned (.tuple #[.agg #[.int .u64 0, .int .u64 0], .int .i64 1]) ∧ Below w.heap.size w w' := by
  have hu := Tryd.underlying26
  obtain ⟨W, hW, b0, hWb⟩ := one_new w (.cells #[.int .u64 0, .int .u64 0] 26)
  have HW := Aside0.mk hW
  have HWb := Aside0.mk hWb
  have B0 := Aside0.mk b0
  have HS := Aside0.mk hS
  clear hW hWb b0 hS
  go_enter Tryd.func12, Tryd.ntmps12
  go_wp2_with fail
  rw [HW.out]
  go_wp2_with fail
  refine (HS.out _).mono ?_
  rintro en w1 ⟨rfl, hb1⟩
  have b1 := blk_old B0.out hb1
  have c0 : w1.cell? ⟨w.heap.size, 0, none⟩ = some (.int .u64 0) := (blk_cell b1 0).trans rfl
  have c1 : w1.cell? ⟨w.heap.size, 1, none⟩ = some (.int .u64 0) := (blk_cell b1 1).trans rfl
  have f0 := blk_frozen b1 0
  have f1 := blk_frozen b1 1
  have B1 := Aside0.mk b1
  have HB1 := Aside0.mk (Below.trans HWb.out (below_mono HWb.out hb1))
  clear b1
  clear hb1
  go_wp2
  refine bodyPost_ret (results_ct rfl _ _ w.heap.size 26 #[.int .u64 0, .int .u64 0] (0, 0) _ rfl (blk_put (cs := #[.int .u64 0, .int .u64 0]) (blk_put (cs := #[.int .u64 0, .int .u64 0]) B1.out 0 _ rfl) 1 _ rfl) Tryd.underlying26 rfl (by kernel_rfl)) rfl ?_
  exact ⟨rfl, below_set (below_set HB1.out (Nat.le_refl _)) (Nat.le_refl _)⟩
set_option maxHeartbeats 8000000 in
theorem of_none (b y z : Nat) (hS : Ask0 b) (ho : (FloatKind.f64.format.order b 4652218415073722368 == some Ordering.gt) = false)
    (hq : ∀ w : World, (binOp .mul 23 (.float .f64 b) (.float .f64 4697254411347427328)).run Tryd.prog w = .ok (.float .f64 y) w)
    (he : ∀ w : World, (callFunc 32 #[.float .f64 y]).run Tryd.prog w = .ok (.value (.float .f64 z)) w)
    (hv : ∀ w : World, (convert 23 22 (.float .f64 z)).run Tryd.prog w = .ok (.int .u64 0) w)
    (hp : (FloatKind.f64.format.order b 0 == some Ordering.gt) = true) (w : World) :
    Calls Tryd.prog 12 #[.float .f64 b] w fun e w' => e = .returned (.tuple #[.agg #[.int .u64 0, .int .u64 0], .int .i64 1]) ∧ Below w.heap.size w w' := by
  have hu := Tryd.underlying26
  obtain ⟨W, hW, b0, hWb⟩ := one_new w (.cells #[.int .u64 0, .int .u64 0] 26)
  have HW := Aside0.mk hW
  have HWb := Aside0.mk hWb
  have B0 := Aside0.mk b0
  have HS := Aside0.mk hS
  clear hW hWb b0 hS
  go_enter Tryd.func12, Tryd.ntmps12
  go_wp2_with fail
  rw [HW.out]
  go_wp2_with fail
  refine (HS.out _).mono ?_
  rintro en w1 ⟨rfl, hb1⟩
  have b1 := blk_old B0.out hb1
  have c0 : w1.cell? ⟨w.heap.size, 0, none⟩ = some (.int .u64 0) := (blk_cell b1 0).trans rfl
  have c1 : w1.cell? ⟨w.heap.size, 1, none⟩ = some (.int .u64 0) := (blk_cell b1 1).trans rfl
  have f0 := blk_frozen b1 0
  have f1 := blk_frozen b1 1
  have B1 := Aside0.mk b1
  have HB1 := Aside0.mk (Below.trans HWb.out (below_mono HWb.out hb1))
  clear b1
  clear hb1
  go_wp2_with (first | simp only [hq] | simp only [he] | simp only [hv])
  refine bodyPost_ret (results_ct rfl _ _ w.heap.size 26 #[.int .u64 0, .int .u64 0] (0, 0) _ rfl (blk_put (cs := #[.int .u64 0, .int .u64 0]) (blk_put (cs := #[.int .u64 0, .int .u64 0]) B1.out 0 _ rfl) 1 _ rfl) Tryd.underlying26 rfl (by kernel_rfl)) rfl ?_
  exact ⟨rfl, below_set (below_set HB1.out (Nat.le_refl _)) (Nat.le_refl _)⟩
set_option maxHeartbeats 8000000 in
theorem of_yes (b y z n : Nat) (c by_ : Nat) (hS : Ask0 b) (ho : (FloatKind.f64.format.order b 4652218415073722368 == some Ordering.gt) = false)
    (hq : ∀ w : World, (binOp .mul 23 (.float .f64 b) (.float .f64 4697254411347427328)).run Tryd.prog w = .ok (.float .f64 y) w)
    (he : ∀ w : World, (callFunc 32 #[.float .f64 y]).run Tryd.prog w = .ok (.value (.float .f64 z)) w)
    (hv : ∀ w : World, (convert 23 22 (.float .f64 z)).run Tryd.prog w = .ok (.int .u64 (n : Int)) w)
    (hp : ((n : Int) == 0) = false ∨ (FloatKind.f64.format.order b 0 == some Ordering.gt) = false)
    (hT0 : ∀ W : World, TabW W → Calls Tryd.prog 33 #[.int .u64 (n : Int)] W fun e w' => e = .returned (.int .i64 (c : Int)) ∧ w' = W)
    (hc : min (c : Int) 20 = (by_ : Int)) (hby : by_ ≤ 20) (w : World) (hT : TabW w) :
    Calls Tryd.prog 12 #[.float .f64 b] w fun e w' => e = .returned (.tuple #[.agg #[.int .u64 ((n : Int) / 2 ^ by_), .int .u64 (IntKind.u64.wrap (2 ^ (20 - by_)))], .int .i64 0]) ∧ Below w.heap.size w w' := by
  have HT := Aside0.mk hT
  have HZ := Aside0.mk hT0
  clear hT hT0
  have hu := Tryd.underlying26
  obtain ⟨W, hW, b0, hWb⟩ := one_new w (.cells #[.int .u64 0, .int .u64 0] 26)
  have HW := Aside0.mk hW
  have HWb := Aside0.mk hWb
  have B0 := Aside0.mk b0
  have HS := Aside0.mk hS
  clear hW hWb b0 hS
  go_enter Tryd.func12, Tryd.ntmps12
  go_wp2_with fail
  rw [HW.out]
  go_wp2_with fail
  refine (HS.out _).mono ?_
  rintro en w1 ⟨rfl, hb1⟩
  have b1 := blk_old B0.out hb1
  have c0 : w1.cell? ⟨w.heap.size, 0, none⟩ = some (.int .u64 0) := (blk_cell b1 0).trans rfl
  have c1 : w1.cell? ⟨w.heap.size, 1, none⟩ = some (.int .u64 0) := (blk_cell b1 1).trans rfl
  have f0 := blk_frozen b1 0
  have f1 := blk_frozen b1 1
  have B1 := Aside0.mk b1
  have HB1 := Aside0.mk (Below.trans HWb.out (below_mono HWb.out hb1))
  clear b1
  have HT1 := Aside0.mk (tabAt (tabAt HT.out HWb.out) hb1)
  clear hb1
  cases hn : ((n : Int) == 0)
  · clear hp
    go_wp2_with (first | simp only [hq] | simp only [he] | simp only [hv] | fail)
    refine (HZ.out _ HT1.out).mono ?_
    rintro en w2 ⟨rfl, rfl⟩
    go_wp2
    have w1_ : IntKind.i64.wrap (20 - (by_ : Int)) = 20 - (by_ : Int) := IntWalk.i64_in _ (by omega)
    have w0_ : (0 : Int) ≤ 20 - (by_ : Int) := by omega
    go_still_tail 7, (by kernel_rfl)
    change wpList _ _ _ _ _ w2.drew
    go_wp2
    refine bodyPost_ret (results_ct rfl _ _ w.heap.size 26 #[.int .u64 ((n : Int) / 2 ^ by_), .int .u64 (IntKind.u64.wrap (2 ^ (20 - by_)))] (0, 0) _ rfl (blk_put (cs := #[.int .u64 ((n : Int) / 2 ^ by_), .int .u64 0]) (blk_put (cs := #[.int .u64 0, .int .u64 0]) (blk_drew B1.out) 0 _ rfl) 1 _ rfl) Tryd.underlying26 rfl (by kernel_rfl)) rfl ?_
    exact ⟨rfl, below_set (below_set (below_drew1 HB1.out) (Nat.le_refl _)) (Nat.le_refl _)⟩
  · have hp2 : (FloatKind.f64.format.order b 0 == some Ordering.gt) = false := by
      rcases hp with h | h
      · rw [hn] at h; cases h
      · exact h
    clear hp
    go_wp2_with (first | simp only [hq] | simp only [he] | simp only [hv] | fail)
    refine (HZ.out _ HT1.out).mono ?_
    rintro en w2 ⟨rfl, rfl⟩
    go_wp2
    have w1_ : IntKind.i64.wrap (20 - (by_ : Int)) = 20 - (by_ : Int) := IntWalk.i64_in _ (by omega)
    have w0_ : (0 : Int) ≤ 20 - (by_ : Int) := by omega
    go_still_tail 7, (by kernel_rfl)
    change wpList _ _ _ _ _ w2.drew
    go_wp2
    refine bodyPost_ret (results_ct rfl _ _ w.heap.size 26 #[.int .u64 ((n : Int) / 2 ^ by_), .int .u64 (IntKind.u64.wrap (2 ^ (20 - by_)))] (0, 0) _ rfl (blk_put (cs := #[.int .u64 ((n : Int) / 2 ^ by_), .int .u64 0]) (blk_put (cs := #[.int .u64 0, .int .u64 0]) (blk_drew B1.out) 0 _ rfl) 1 _ rfl) Tryd.underlying26 rfl (by kernel_rfl)) rfl ?_
    exact ⟨rfl, below_set (below_set (below_drew1 HB1.out) (Nat.le_refl _)) (Nat.le_refl _)⟩
theorem min_cast (c : Nat) : min (c : Int) 20 = ((min c 20 : Nat) : Int) := by omega
def rate_Of.f (a0 : Nat) : Option (Int × Int × Int) := if a0 < 18446744073709551616 then some (ofV a0) else none
theorem rate_Of.calls (a0 : Nat) (r1 r2 r3 : Int) (w : World) (hT : TabW w) (h : rate_Of.f a0 = some (r1, r2, r3)) :
    Calls Tryd.prog 12 #[.float .f64 a0] w fun e w' => e = .returned (.tuple #[.agg #[.int .u64 r1, .int .u64 r2], .int .i64 r3]) ∧ Below w.heap.size w w' := by
  unfold rate_Of.f at h
  split at h
  case isFalse => cases h
  rename_i hb
  have hr := Option.some.inj h
  clear h
  have HA := fun (r : Int) (h : (if nanB a0 = true then (10 : Int) else if 9223372036854775808 ≤ a0 then 11 else 0) = r) => (fun w => rate_asked.calls a0 r w (by unfold rate_asked.f; rw [if_pos hb, h]))
  unfold ofV at hr
  by_cases hn : nanB a0 = true
  · rw [if_pos hn] at hr HA
    obtain ⟨rfl, rfl, rfl⟩ : (0 : Int) = r1 ∧ (0 : Int) = r2 ∧ (10 : Int) = r3 := by simpa using hr
    exact of_err a0 10 rfl (HA 10 rfl) w
  · rw [if_neg hn] at hr HA
    by_cases hs : 9223372036854775808 ≤ a0
    · rw [if_pos hs] at hr HA
      obtain ⟨rfl, rfl, rfl⟩ : (0 : Int) = r1 ∧ (0 : Int) = r2 ∧ (11 : Int) = r3 := by simpa using hr
      exact of_err a0 11 rfl (HA 11 rfl) w
    · rw [if_neg hs] at hr HA
      have hle := nan_pos (b := a0) (by simpa using hn) (by omega)
      have ho := ord_gt hle (show 4652218415073722368 ≤ 9218868437227405312 by decide)
      by_cases hg : 4652218415073722368 < a0
      · rw [if_pos hg] at hr
        rw [decide_eq_true hg] at ho
        obtain ⟨rfl, rfl, rfl⟩ : (0 : Int) = r1 ∧ (0 : Int) = r2 ∧ (1 : Int) = r3 := by simpa using hr
        exact of_big a0 (HA 0 rfl) ho w
      · rw [if_neg hg] at hr
        rw [decide_eq_false hg] at ho
        obtain ⟨y, m, x, ey, er, ez⟩ := of_nums (b := a0) (by omega)
        have hq : ∀ w : World, (binOp .mul 23 (.float .f64 a0) (.float .f64 4697254411347427328)).run Tryd.prog w = .ok (.float .f64 y) w := fun w => run_float_arith w .mul _ .f64 _ _ _ ey
        have he := even_run er ez
        have hn30 := nOf_le (r := a0) (by omega)
        have hv := conv_run (nat_back hn30)
        have hp := ord_gt hle (show 0 ≤ 9218868437227405312 by decide)
        by_cases hz : nOf a0 = 0 ∧ 0 < a0
        · rw [if_pos hz] at hr
          rw [decide_eq_true hz.2] at hp
          rw [hz.1] at hv
          obtain ⟨rfl, rfl, rfl⟩ : (0 : Int) = r1 ∧ (0 : Int) = r2 ∧ (1 : Int) = r3 := by simpa using hr
          rw [hz.1] at he
          exact of_none a0 y _ (HA 0 rfl) ho hq he hv hp w
        · rw [if_neg hz] at hr
          have hby := byOf_le (nOf a0)
          have p20 := pow_20 (20 - byOf (nOf a0)) (by omega)
          have e1 : ((nOf a0 / 2 ^ byOf (nOf a0) : Nat) : Int) = (nOf a0 : Int) / 2 ^ byOf (nOf a0) := by rw [Int.natCast_ediv, Int.natCast_pow]; rfl
          have e2 : IntKind.u64.wrap (2 ^ (20 - byOf (nOf a0))) = 2 ^ (20 - byOf (nOf a0)) := IntWalk.u64_in _ ⟨by omega, by omega⟩
          have hh := Prod.mk.inj hr
          have hh2 := Prod.mk.inj hh.2
          obtain rfl := hh2.2
          rw [← hh2.1, ← hh.1, e1, ← e2]
          refine of_yes a0 y _ (nOf a0) (Lib.ctz 64 (nOf a0)) (byOf (nOf a0)) (HA 0 rfl) ho hq he hv ?_ (fun W hW => tz_run (nOf a0) (by omega) W hW) ?_ hby w hT
          · by_cases h0 : nOf a0 = 0
            · right
              refine hp.trans ?_
              exact decide_eq_false (fun h => hz ⟨h0, h⟩)
            · left
              exact beq_eq_false_iff_ne.mpr (by omega)
          · exact min_cast _

/-- A fraction's float, in the document. -/
def tikref1_Float.f (n d : Int) : Option Nat := (tikref1_May.f n d).bind fun b => if b = true then dbl.div (floatOfInt .f64 n) (floatOfInt .f64 d) else some 0
theorem tikref1_Float.calls (n d : Int) (r : Nat) (w : World) (h : tikref1_Float.f n d = some r) :
    Calls Tryd.prog 26 #[.agg #[.int .u64 n, .int .u64 d]] w fun e w' => e = .returned (.float .f64 r) ∧ Below w.heap.size w w' := by
  unfold tikref1_Float.f at h
  obtain ⟨b, hM, h⟩ := Option.bind_eq_some_iff.mp h
  obtain ⟨W, hW, b0, hWb⟩ := one_new w (.cells #[.int .u64 n, .int .u64 d] 31)
  have HW := Aside0.mk hW
  have HWb := Aside0.mk hWb
  have B0 := Aside0.mk b0
  have HM := Aside0.mk (fun w => tikref1_May.calls n d b w hM)
  clear hW hWb b0 hM
  cases b
  · obtain rfl : 0 = r := Option.some.inj ((if_neg (by simp)).symm.trans h)
    clear h
    have c0 := (blk_cell B0.out 0).trans (show _ = some (Value.int .u64 n) from rfl)
    have c1 := (blk_cell B0.out 1).trans (show _ = some (Value.int .u64 d) from rfl)
    go_enter Tryd.func26, Tryd.ntmps26
    go_wp2_with fail
    rw [HW.out]
    go_wp2_with fail
    refine (HM.out _).mono ?_
    rintro en w1 ⟨rfl, hb1⟩
    go_wp2
    go_ret
    exact ⟨rfl, Below.trans HWb.out (below_mono HWb.out hb1)⟩
  · have hq : ∀ w : World, (binOp .quo 23 (.float .f64 (floatOfInt .f64 n)) (.float .f64 (floatOfInt .f64 d))).run Tryd.prog w = .ok (.float .f64 r) w := fun w => run_float_arith w .quo _ .f64 _ _ r ((if_pos rfl).symm.trans h)
    clear h
    have c0 := (blk_cell B0.out 0).trans (show _ = some (Value.int .u64 n) from rfl)
    have c1 := (blk_cell B0.out 1).trans (show _ = some (Value.int .u64 d) from rfl)
    go_enter Tryd.func26, Tryd.ntmps26
    go_wp2_with fail
    rw [HW.out]
    go_wp2_with fail
    refine (HM.out _).mono ?_
    rintro en w1 ⟨rfl, hb1⟩
    have b1 := blk_old B0.out hb1
    clear c0 c1
    have c0 := (blk_cell b1 0).trans (show _ = some (Value.int .u64 n) from rfl)
    have c1 := (blk_cell b1 1).trans (show _ = some (Value.int .u64 d) from rfl)
    go_wp2_with (simp only [hq])
    go_ret
    exact ⟨rfl, Below.trans HWb.out (below_mono HWb.out hb1)⟩
abbrev tikref1_Seconds.f (a0 : Int) : Option Nat := rate_Seconds.f a0
abbrev tikref1_Ticks.f (a0 : Nat) : Option (Int × Int) := rate_Ticks.f a0
end Go.Proofs.YtpebcphkockkkaaDoor.Hand
