/-
  tikref1.Float, walked; the names under which the document's functions are known to the print.
-/
import Derived.Test.YtpebcphkockkkaaDoorRWalk3
import Derived.Test.YtpebcphkockkkaaDoorPEx1
import Derived.Test.YtpebcphkockkkaaDoorRef1
namespace Go.Proofs.YtpebcphkockkkaaDoor.Hand
open Go.RowKit Go.Proofs.YtpebcphkockkkaaDoorW.PrintWords Go.Proofs.YtpebcphkockkkaaDoorW.PrintLast Go.Proofs.YtpebcphkockkkaaDoorW.PrintMore Go.Proofs.YtpebcphkockkkaaDoor.PA Go.Proofs.YtpebcphkockkkaaDoor.PB Go.Proofs.YtpebcphkockkkaaDoor.PD Go.Proofs.YtpebcphkockkkaaDoor.PE

/-- A fraction's float, in the document. -/
def tikref1_Float.f (n d : Int) : Option Nat := (tikref1_May.f n d).bind fun b => if b = true then dbl.div (floatOfInt .f64 n) (floatOfInt .f64 d) else some 0
theorem tikref1_Float.calls (n d : Int) (r : Nat) (w : World) (h : tikref1_Float.f n d = some r) :
    Calls Tryd.prog 26 #[.agg #[.int .u64 n, .int .u64 d]] w fun e w' => e = .returned (.float .f64 r) ∧ Below w.heap.size w w' := by
  unfold tikref1_Float.f at h
  obtain ⟨b, hM, h⟩ := Option.bind_eq_some_iff.mp h
  obtain ⟨W, hW, b0, hWb⟩ := one_new w (.cells #[.int .u64 n, .int .u64 d] 31)
  have HW := Aside0.mk hW
  have HWb := Aside0.mk hWb
  have B0 := Aside0.mk b0
  have HM := Aside0.mk (fun w => tikref1_May.calls n d b w hM)
  clear hW hWb b0 hM
  cases b
  · obtain rfl : 0 = r := Option.some.inj ((if_neg (by simp)).symm.trans h)
    clear h
    have c0 := (blk_cell B0.out 0).trans (show _ = some (Value.int .u64 n) from rfl)
    have c1 := (blk_cell B0.out 1).trans (show _ = some (Value.int .u64 d) from rfl)
    go_enter Tryd.func26, Tryd.ntmps26
    go_wp2_with fail
    rw [HW.out]
    go_wp2_with fail
    refine (HM.out _).mono ?_
    rintro en w1 ⟨rfl, hb1⟩
    go_wp2
    go_ret
    exact ⟨rfl, Below.trans HWb.out (below_mono HWb.out hb1)⟩
  · have hq : ∀ w : World, (binOp .quo 23 (.float .f64 (floatOfInt .f64 n)) (.float .f64 (floatOfInt .f64 d))).run Tryd.prog w = .ok (.float .f64 r) w := fun w => run_float_arith w .quo _ .f64 _ _ r ((if_pos rfl).symm.trans h)
    clear h
    have c0 := (blk_cell B0.out 0).trans (show _ = some (Value.int .u64 n) from rfl)
    have c1 := (blk_cell B0.out 1).trans (show _ = some (Value.int .u64 d) from rfl)
    go_enter Tryd.func26, Tryd.ntmps26
    go_wp2_with fail
    rw [HW.out]
    go_wp2_with fail
    refine (HM.out _).mono ?_
    rintro en w1 ⟨rfl, hb1⟩
    have b1 := blk_old B0.out hb1
    clear c0 c1
    have c0 := (blk_cell b1 0).trans (show _ = some (Value.int .u64 n) from rfl)
    have c1 := (blk_cell b1 1).trans (show _ = some (Value.int .u64 d) from rfl)
    go_wp2_with (simp only [hq])
    go_ret
    exact ⟨rfl, Below.trans HWb.out (below_mono HWb.out hb1)⟩
abbrev tikref1_Seconds.f (a0 : Int) : Option Nat := rate_Seconds.f a0
abbrev tikref1_Ticks.f (a0 : Nat) : Option (Int × Int) := rate_Ticks.f a0
end Go.Proofs.YtpebcphkockkkaaDoor.Hand
