/- Texts of this claim, put together. -/
import Derived.Test.YtlgfmmkabnbllaaDoorMDPc
import Derived.Test.YtlgfmmkabnbllaaDoorMDPe
import Derived.Test.YtlgfmmkabnbllaaDoorMDPa
set_option linter.unusedVariables false
set_option linter.unusedSimpArgs false
namespace Go.Proofs.YtlgfmmkabnbllaaDoor.Hand
open Go.RowKit Go.Proofs.YtlgfmmkabnbllaaDoorW.PrintWords Go.Proofs.YtlgfmmkabnbllaaDoorW.PrintLast Go.Proofs.YtlgfmmkabnbllaaDoorW.PrintMore Go.Proofs.YtlgfmmkabnbllaaDoor.PD
set_option linter.unusedSimpArgs false
set_option linter.unusedVariables false
def tiklaw23_Does.f (k : Nat) (s0 : Int) (s1 : Int) (s2 : Int) (s3 : Int) (s4 : Bool) (s5 : Int) (s6 : Int) (s7 : Int) (s8 : Int) (s9 : Int) (a0 a1 a2 a3 a4 : Int) (a5 : Nat) : Option (Int × Int × Int × Int × Int × Bool × Int × Int × Int × Int × Int) :=
  if a0 = 0 then (deck_Deck_Live.f s0 s1 s2 s3 s4 s5 s6 s7 s8 s9 a1).bind fun b => some (0, b.1, b.2.1, b.2.2.1, b.2.2.2.1, b.2.2.2.2.1, b.2.2.2.2.2.1, b.2.2.2.2.2.2.1, b.2.2.2.2.2.2.2.1, b.2.2.2.2.2.2.2.2.1, b.2.2.2.2.2.2.2.2.2) else
  if a0 = 1 then (deck_Deck_Pause.f s0 s1 s2 s3 s4 s5 s6 s7 s8 s9 a1 a2 a3).bind fun b => some (b.1, b.2.1, b.2.2.1, b.2.2.2.1, b.2.2.2.2.1, b.2.2.2.2.2.1, b.2.2.2.2.2.2.1, b.2.2.2.2.2.2.2.1, b.2.2.2.2.2.2.2.2.1, b.2.2.2.2.2.2.2.2.2.1, b.2.2.2.2.2.2.2.2.2.2) else
  if a0 = 2 then (deck_Deck_Play.f s0 s1 s2 s3 s4 s5 s6 s7 s8 s9 a1 a2 a3).bind fun b => some (b.1, b.2.1, b.2.2.1, b.2.2.2.1, b.2.2.2.2.1, b.2.2.2.2.2.1, b.2.2.2.2.2.2.1, b.2.2.2.2.2.2.2.1, b.2.2.2.2.2.2.2.2.1, b.2.2.2.2.2.2.2.2.2.1, b.2.2.2.2.2.2.2.2.2.2) else
  if a0 = 3 then (deck_Deck_Seek.f s0 s1 s2 s3 s4 s5 s6 s7 s8 s9 a1 a2 a3 a4).bind fun b => some (b.1, b.2.1, b.2.2.1, b.2.2.2.1, b.2.2.2.2.1, b.2.2.2.2.2.1, b.2.2.2.2.2.2.1, b.2.2.2.2.2.2.2.1, b.2.2.2.2.2.2.2.2.1, b.2.2.2.2.2.2.2.2.2.1, b.2.2.2.2.2.2.2.2.2.2) else
  if a0 = 4 then (deck_Deck_Speed.f k s0 s1 s2 s3 s4 s5 s6 s7 s8 s9 a1 a5).bind fun b => some (b.1, b.2.1, b.2.2.1, b.2.2.2.1, b.2.2.2.2.1, b.2.2.2.2.2.1, b.2.2.2.2.2.2.1, b.2.2.2.2.2.2.2.1, b.2.2.2.2.2.2.2.2.1, b.2.2.2.2.2.2.2.2.2.1, b.2.2.2.2.2.2.2.2.2.2) else
  (deck_Deck_Tick.f s0 s1 s2 s3 s4 s5 s6 s7 s8 s9 a1 a2 a3).bind fun b => some (0, b.1, b.2.1, b.2.2.1, b.2.2.2.1, b.2.2.2.2.1, b.2.2.2.2.2.1, b.2.2.2.2.2.2.1, b.2.2.2.2.2.2.2.1, b.2.2.2.2.2.2.2.2.1, b.2.2.2.2.2.2.2.2.2)
set_option maxHeartbeats 8000000 in
set_option maxRecDepth 100000 in
theorem tiklaw23_Does.calls (k : Nat) (g : Nat) (s0 : Int) (s1 : Int) (s2 : Int) (s3 : Int) (s4 : Bool) (s5 : Int) (s6 : Int) (s7 : Int) (s8 : Int) (s9 : Int) (a0 a1 a2 a3 a4 : Int) (a5 : Nat) (r1 : Int) (r2 : Int) (r3 : Int) (r4 : Int) (r5 : Int) (r6 : Bool) (r7 : Int) (r8 : Int) (r9 : Int) (r10 : Int) (r11 : Int) (w0 w : World) (hI : IsS100 w0 w g s0 s1 s2 s3 s4 s5 s6 s7 s8 s9) (hB : Below w0.heap.size w0 w) (hT : TabW w0) (h : tiklaw23_Does.f k s0 s1 s2 s3 s4 s5 s6 s7 s8 s9 a0 a1 a2 a3 a4 a5 = some (r1, r2, r3, r4, r5, r6, r7, r8, r9, r10, r11)) :
    Calls Tryd.prog 16 #[.pointer (some ⟨g, 0, none⟩), .agg #[.int .i64 a0, .int .u64 a1, .int .u64 a2, .int .u64 a3, .int .u64 a4, .float .f64 a5]] w fun e w' => e = .returned (.int .i64 r1) ∧ IsS100 w0 w' g r2 r3 r4 r5 r6 r7 r8 r9 r10 r11 ∧ Below w0.heap.size w0 w' ∧ KeepD w w' g := by
  unfold tiklaw23_Does.f at h
  obtain ⟨W, hW, b0, hWb⟩ := one_new w (.cells #[.int .i64 a0, .int .u64 a1, .int .u64 a2, .int .u64 a3, .int .u64 a4, .float .f64 a5] 36)
  have HW := Aside0.mk hW
  have HI := Aside0.mk (hI.below hWb)
  have HB := Aside0.mk (below_step hB hWb)
  have HK := Aside0.mk ((KeepD.refl w g).below hWb)
  have HT := Aside0.mk hT
  have c0 := (blk_cell b0 0).trans (show _ = some (Value.int .i64 a0) from rfl)
  have c1 := (blk_cell b0 1).trans (show _ = some (Value.int .u64 a1) from rfl)
  have c2 := (blk_cell b0 2).trans (show _ = some (Value.int .u64 a2) from rfl)
  have c3 := (blk_cell b0 3).trans (show _ = some (Value.int .u64 a3) from rfl)
  have c4 := (blk_cell b0 4).trans (show _ = some (Value.int .u64 a4) from rfl)
  have c5 := (blk_cell b0 5).trans (show _ = some (Value.float .f64 a5) from rfl)
  clear hW hWb b0 hI hB hT
  by_cases q0 : a0 = 0
  · rw [if_pos q0] at h
    have d0 : (a0 == 0) = true := by simp [q0]
    obtain ⟨⟨z0, z1, z2, z3, z4, z5, z6, z7, z8, z9⟩, hq, h⟩ := Option.bind_eq_some_iff.mp h
    obtain ⟨rfl, rfl, rfl, rfl, rfl, rfl, rfl, rfl, rfl, rfl, rfl⟩ : (0 : Int) = r1 ∧ z0 = r2 ∧ z1 = r3 ∧ z2 = r4 ∧ z3 = r5 ∧ z4 = r6 ∧ z5 = r7 ∧ z6 = r8 ∧ z7 = r9 ∧ z8 = r10 ∧ z9 = r11 := by simpa using Option.some.inj h
    have HQ := Aside0.mk hq
    clear h hq q0
    go_enter Tryd.func16, Tryd.ntmps16
    go_wp2_with fail
    rw [HW.out]
    refine (deck_Deck_Live.calls g s0 s1 s2 s3 s4 s5 s6 s7 s8 s9 a1 z0 z1 z2 z3 z4 z5 z6 z7 z8 z9 w0 _ HI.out HB.out HQ.out).mono ?_
    rintro e1 w1 ⟨rfl, hi, hb, hk⟩
    have HI1 := Aside0.mk hi
    have HB1 := Aside0.mk hb
    have HK1 := Aside0.mk (HK.out.trans hk)
    clear hi hb hk c0 c1 c2 c3 c4 c5
    go_wp2_with fail
    go_ret
    exact ⟨rfl, HI1.out, HB1.out, HK1.out⟩
  rw [if_neg q0] at h
  by_cases q1 : a0 = 1
  · rw [if_pos q1] at h
    have d0 : (a0 == 0) = false := by simp [q0]
    have d1 : (a0 == 1) = true := by simp [q1]
    obtain ⟨⟨z0, z1, z2, z3, z4, z5, z6, z7, z8, z9, z10⟩, hq, h⟩ := Option.bind_eq_some_iff.mp h
    obtain ⟨rfl, rfl, rfl, rfl, rfl, rfl, rfl, rfl, rfl, rfl, rfl⟩ : z0 = r1 ∧ z1 = r2 ∧ z2 = r3 ∧ z3 = r4 ∧ z4 = r5 ∧ z5 = r6 ∧ z6 = r7 ∧ z7 = r8 ∧ z8 = r9 ∧ z9 = r10 ∧ z10 = r11 := by simpa using Option.some.inj h
    have HQ := Aside0.mk hq
    clear h hq q0 q1
    go_enter Tryd.func16, Tryd.ntmps16
    go_wp2_with fail
    rw [HW.out]
    refine (deck_Deck_Pause.calls g s0 s1 s2 s3 s4 s5 s6 s7 s8 s9 a1 a2 a3 z0 z1 z2 z3 z4 z5 z6 z7 z8 z9 z10 w0 _ HI.out HB.out HQ.out).mono ?_
    rintro e1 w1 ⟨rfl, hi, hb, hk⟩
    have HI1 := Aside0.mk hi
    have HB1 := Aside0.mk hb
    have HK1 := Aside0.mk (HK.out.trans hk)
    clear hi hb hk c0 c1 c2 c3 c4 c5
    go_wp2_with fail
    go_ret
    exact ⟨rfl, HI1.out, HB1.out, HK1.out⟩
  rw [if_neg q1] at h
  by_cases q2 : a0 = 2
  · rw [if_pos q2] at h
    have d0 : (a0 == 0) = false := by simp [q0]
    have d1 : (a0 == 1) = false := by simp [q1]
    have d2 : (a0 == 2) = true := by simp [q2]
    obtain ⟨⟨z0, z1, z2, z3, z4, z5, z6, z7, z8, z9, z10⟩, hq, h⟩ := Option.bind_eq_some_iff.mp h
    obtain ⟨rfl, rfl, rfl, rfl, rfl, rfl, rfl, rfl, rfl, rfl, rfl⟩ : z0 = r1 ∧ z1 = r2 ∧ z2 = r3 ∧ z3 = r4 ∧ z4 = r5 ∧ z5 = r6 ∧ z6 = r7 ∧ z7 = r8 ∧ z8 = r9 ∧ z9 = r10 ∧ z10 = r11 := by simpa using Option.some.inj h
    have HQ := Aside0.mk hq
    clear h hq q0 q1 q2
    go_enter Tryd.func16, Tryd.ntmps16
    go_wp2_with fail
    rw [HW.out]
    refine (deck_Deck_Play.calls g s0 s1 s2 s3 s4 s5 s6 s7 s8 s9 a1 a2 a3 z0 z1 z2 z3 z4 z5 z6 z7 z8 z9 z10 w0 _ HI.out HB.out HQ.out).mono ?_
    rintro e1 w1 ⟨rfl, hi, hb, hk⟩
    have HI1 := Aside0.mk hi
    have HB1 := Aside0.mk hb
    have HK1 := Aside0.mk (HK.out.trans hk)
    clear hi hb hk c0 c1 c2 c3 c4 c5
    go_wp2_with fail
    go_ret
    exact ⟨rfl, HI1.out, HB1.out, HK1.out⟩
  rw [if_neg q2] at h
  by_cases q3 : a0 = 3
  · rw [if_pos q3] at h
    have d0 : (a0 == 0) = false := by simp [q0]
    have d1 : (a0 == 1) = false := by simp [q1]
    have d2 : (a0 == 2) = false := by simp [q2]
    have d3 : (a0 == 3) = true := by simp [q3]
    obtain ⟨⟨z0, z1, z2, z3, z4, z5, z6, z7, z8, z9, z10⟩, hq, h⟩ := Option.bind_eq_some_iff.mp h
    obtain ⟨rfl, rfl, rfl, rfl, rfl, rfl, rfl, rfl, rfl, rfl, rfl⟩ : z0 = r1 ∧ z1 = r2 ∧ z2 = r3 ∧ z3 = r4 ∧ z4 = r5 ∧ z5 = r6 ∧ z6 = r7 ∧ z7 = r8 ∧ z8 = r9 ∧ z9 = r10 ∧ z10 = r11 := by simpa using Option.some.inj h
    have HQ := Aside0.mk hq
    clear h hq q0 q1 q2 q3
    go_enter Tryd.func16, Tryd.ntmps16
    go_wp2_with fail
    rw [HW.out]
    refine (deck_Deck_Seek.calls g s0 s1 s2 s3 s4 s5 s6 s7 s8 s9 a1 a2 a3 a4 z0 z1 z2 z3 z4 z5 z6 z7 z8 z9 z10 w0 _ HI.out HB.out HQ.out).mono ?_
    rintro e1 w1 ⟨rfl, hi, hb, hk⟩
    have HI1 := Aside0.mk hi
    have HB1 := Aside0.mk hb
    have HK1 := Aside0.mk (HK.out.trans hk)
    clear hi hb hk c0 c1 c2 c3 c4 c5
    go_wp2_with fail
    go_ret
    exact ⟨rfl, HI1.out, HB1.out, HK1.out⟩
  rw [if_neg q3] at h
  by_cases q4 : a0 = 4
  · rw [if_pos q4] at h
    have d0 : (a0 == 0) = false := by simp [q0]
    have d1 : (a0 == 1) = false := by simp [q1]
    have d2 : (a0 == 2) = false := by simp [q2]
    have d3 : (a0 == 3) = false := by simp [q3]
    have d4 : (a0 == 4) = true := by simp [q4]
    obtain ⟨⟨z0, z1, z2, z3, z4, z5, z6, z7, z8, z9, z10⟩, hq, h⟩ := Option.bind_eq_some_iff.mp h
    obtain ⟨rfl, rfl, rfl, rfl, rfl, rfl, rfl, rfl, rfl, rfl, rfl⟩ : z0 = r1 ∧ z1 = r2 ∧ z2 = r3 ∧ z3 = r4 ∧ z4 = r5 ∧ z5 = r6 ∧ z6 = r7 ∧ z7 = r8 ∧ z8 = r9 ∧ z9 = r10 ∧ z10 = r11 := by simpa using Option.some.inj h
    have HQ := Aside0.mk hq
    clear h hq q0 q1 q2 q3 q4
    go_enter Tryd.func16, Tryd.ntmps16
    go_wp2_with fail
    rw [HW.out]
    refine (deck_Deck_Speed.calls k g s0 s1 s2 s3 s4 s5 s6 s7 s8 s9 a1 a5 z0 z1 z2 z3 z4 z5 z6 z7 z8 z9 z10 w0 _ HI.out HB.out (tabAt HT.out HB.out) HQ.out).mono ?_
    rintro e1 w1 ⟨rfl, hi, hb, hk⟩
    have HI1 := Aside0.mk hi
    have HB1 := Aside0.mk hb
    have HK1 := Aside0.mk (HK.out.trans hk)
    clear hi hb hk c0 c1 c2 c3 c4 c5
    go_wp2_with fail
    go_ret
    exact ⟨rfl, HI1.out, HB1.out, HK1.out⟩
  rw [if_neg q4] at h
  have d0 : (a0 == 0) = false := by simp [q0]
  have d1 : (a0 == 1) = false := by simp [q1]
  have d2 : (a0 == 2) = false := by simp [q2]
  have d3 : (a0 == 3) = false := by simp [q3]
  have d4 : (a0 == 4) = false := by simp [q4]
  obtain ⟨⟨z0, z1, z2, z3, z4, z5, z6, z7, z8, z9⟩, hq, h⟩ := Option.bind_eq_some_iff.mp h
  obtain ⟨rfl, rfl, rfl, rfl, rfl, rfl, rfl, rfl, rfl, rfl, rfl⟩ : (0 : Int) = r1 ∧ z0 = r2 ∧ z1 = r3 ∧ z2 = r4 ∧ z3 = r5 ∧ z4 = r6 ∧ z5 = r7 ∧ z6 = r8 ∧ z7 = r9 ∧ z8 = r10 ∧ z9 = r11 := by simpa using Option.some.inj h
  have HQ := Aside0.mk hq
  clear h hq q0 q1 q2 q3 q4
  go_enter Tryd.func16, Tryd.ntmps16
  go_wp2_with fail
  rw [HW.out]
  refine (deck_Deck_Tick.calls g s0 s1 s2 s3 s4 s5 s6 s7 s8 s9 a1 a2 a3 z0 z1 z2 z3 z4 z5 z6 z7 z8 z9 w0 _ HI.out HB.out HQ.out).mono ?_
  rintro e1 w1 ⟨rfl, hi, hb, hk⟩
  have HI1 := Aside0.mk hi
  have HB1 := Aside0.mk hb
  have HK1 := Aside0.mk (HK.out.trans hk)
  clear hi hb hk c0 c1 c2 c3 c4 c5
  go_wp2_with fail
  go_ret
  exact ⟨rfl, HI1.out, HB1.out, HK1.out⟩
def tiklaw23_plain.f (k : Nat) (s0 : Int) (s1 : Int) (s2 : Int) (s3 : Int) (s4 : Int) (s5 : Int) (s6 : Int) (a0 a1 a2 a3 a4 : Int) (a5 : Nat) : Option (Int × Int × Int × Int × Int × Int × Int × Int) :=
  if a0 = 0 then (tikref22_Deck_Live.f s0 s1 s2 s3 s4 s5 s6 a1).bind fun b => some (0, b.1, b.2.1, b.2.2.1, b.2.2.2.1, b.2.2.2.2.1, b.2.2.2.2.2.1, b.2.2.2.2.2.2) else
  if a0 = 1 then (tikref22_Deck_Pause.f k s0 s1 s2 s3 s4 s5 s6 a1 a2 a3).bind fun b => some (b.1, b.2.1, b.2.2.1, b.2.2.2.1, b.2.2.2.2.1, b.2.2.2.2.2.1, b.2.2.2.2.2.2.1, b.2.2.2.2.2.2.2) else
  if a0 = 2 then (tikref22_Deck_Play.f s0 s1 s2 s3 s4 s5 s6 a1 a2 a3).bind fun b => some (b.1, b.2.1, b.2.2.1, b.2.2.2.1, b.2.2.2.2.1, b.2.2.2.2.2.1, b.2.2.2.2.2.2.1, b.2.2.2.2.2.2.2) else
  if a0 = 3 then (tikref22_Deck_Seek.f s0 s1 s2 s3 s4 s5 s6 a1 a2 a3 a4).bind fun b => some (b.1, b.2.1, b.2.2.1, b.2.2.2.1, b.2.2.2.2.1, b.2.2.2.2.2.1, b.2.2.2.2.2.2.1, b.2.2.2.2.2.2.2) else
  if a0 = 4 then (tikref22_Deck_Speed.f k s0 s1 s2 s3 s4 s5 s6 a1 a5).bind fun b => some (b.1, b.2.1, b.2.2.1, b.2.2.2.1, b.2.2.2.2.1, b.2.2.2.2.2.1, b.2.2.2.2.2.2.1, b.2.2.2.2.2.2.2) else
  (tikref22_Deck_Tick.f k s0 s1 s2 s3 s4 s5 s6 a1 a2 a3).bind fun b => some (0, b.1, b.2.1, b.2.2.1, b.2.2.2.1, b.2.2.2.2.1, b.2.2.2.2.2.1, b.2.2.2.2.2.2)
set_option maxHeartbeats 8000000 in
set_option maxRecDepth 100000 in
theorem tiklaw23_plain.calls (k : Nat) (g : Nat) (s0 : Int) (s1 : Int) (s2 : Int) (s3 : Int) (s4 : Int) (s5 : Int) (s6 : Int) (a0 a1 a2 a3 a4 : Int) (a5 : Nat) (r1 : Int) (r2 : Int) (r3 : Int) (r4 : Int) (r5 : Int) (r6 : Int) (r7 : Int) (r8 : Int) (w0 w : World) (hI : IsS43 w0 w g s0 s1 s2 s3 s4 s5 s6) (hB : Below w0.heap.size w0 w) (h : tiklaw23_plain.f k s0 s1 s2 s3 s4 s5 s6 a0 a1 a2 a3 a4 a5 = some (r1, r2, r3, r4, r5, r6, r7, r8)) :
    Calls Tryd.prog 17 #[.pointer (some ⟨g, 0, none⟩), .agg #[.int .i64 a0, .int .u64 a1, .int .u64 a2, .int .u64 a3, .int .u64 a4, .float .f64 a5]] w fun e w' => e = .returned (.int .i64 r1) ∧ IsS43 w0 w' g r2 r3 r4 r5 r6 r7 r8 ∧ Below w0.heap.size w0 w' ∧ KeepBut w w' g none := by
  unfold tiklaw23_plain.f at h
  obtain ⟨W, hW, b0, hWb⟩ := one_new w (.cells #[.int .i64 a0, .int .u64 a1, .int .u64 a2, .int .u64 a3, .int .u64 a4, .float .f64 a5] 36)
  have HW := Aside0.mk hW
  have HI := Aside0.mk (hI.below hWb)
  have HB := Aside0.mk (below_step hB hWb)
  have HK := Aside0.mk (KeepBut.of_below hWb g none)
  have c0 := (blk_cell b0 0).trans (show _ = some (Value.int .i64 a0) from rfl)
  have c1 := (blk_cell b0 1).trans (show _ = some (Value.int .u64 a1) from rfl)
  have c2 := (blk_cell b0 2).trans (show _ = some (Value.int .u64 a2) from rfl)
  have c3 := (blk_cell b0 3).trans (show _ = some (Value.int .u64 a3) from rfl)
  have c4 := (blk_cell b0 4).trans (show _ = some (Value.int .u64 a4) from rfl)
  have c5 := (blk_cell b0 5).trans (show _ = some (Value.float .f64 a5) from rfl)
  clear hW hWb b0 hI hB
  by_cases q0 : a0 = 0
  · rw [if_pos q0] at h
    have d0 : (a0 == 0) = true := by simp [q0]
    obtain ⟨⟨z0, z1, z2, z3, z4, z5, z6⟩, hq, h⟩ := Option.bind_eq_some_iff.mp h
    obtain ⟨rfl, rfl, rfl, rfl, rfl, rfl, rfl, rfl⟩ : (0 : Int) = r1 ∧ z0 = r2 ∧ z1 = r3 ∧ z2 = r4 ∧ z3 = r5 ∧ z4 = r6 ∧ z5 = r7 ∧ z6 = r8 := by simpa using Option.some.inj h
    have HQ := Aside0.mk hq
    clear h hq q0
    go_enter Tryd.func17, Tryd.ntmps17
    go_wp2_with fail
    rw [HW.out]
    refine (tikref22_Deck_Live.calls g s0 s1 s2 s3 s4 s5 s6 a1 z0 z1 z2 z3 z4 z5 z6 w0 _ HI.out HB.out HQ.out).mono ?_
    rintro e1 w1 ⟨rfl, hi, hb, hk⟩
    have HI1 := Aside0.mk hi
    have HB1 := Aside0.mk hb
    have HK1 := Aside0.mk (KeepBut.trans HK.out hk (.inl rfl))
    clear hi hb hk c0 c1 c2 c3 c4 c5
    go_wp2_with fail
    go_ret
    exact ⟨rfl, HI1.out, HB1.out, HK1.out⟩
  rw [if_neg q0] at h
  by_cases q1 : a0 = 1
  · rw [if_pos q1] at h
    have d0 : (a0 == 0) = false := by simp [q0]
    have d1 : (a0 == 1) = true := by simp [q1]
    obtain ⟨⟨z0, z1, z2, z3, z4, z5, z6, z7⟩, hq, h⟩ := Option.bind_eq_some_iff.mp h
    obtain ⟨rfl, rfl, rfl, rfl, rfl, rfl, rfl, rfl⟩ : z0 = r1 ∧ z1 = r2 ∧ z2 = r3 ∧ z3 = r4 ∧ z4 = r5 ∧ z5 = r6 ∧ z6 = r7 ∧ z7 = r8 := by simpa using Option.some.inj h
    have HQ := Aside0.mk hq
    clear h hq q0 q1
    go_enter Tryd.func17, Tryd.ntmps17
    go_wp2_with fail
    rw [HW.out]
    refine (tikref22_Deck_Pause.calls k g s0 s1 s2 s3 s4 s5 s6 a1 a2 a3 z0 z1 z2 z3 z4 z5 z6 z7 w0 _ HI.out HB.out HQ.out).mono ?_
    rintro e1 w1 ⟨rfl, hi, hb, hk⟩
    have HI1 := Aside0.mk hi
    have HB1 := Aside0.mk hb
    have HK1 := Aside0.mk (KeepBut.trans HK.out hk (.inl rfl))
    clear hi hb hk c0 c1 c2 c3 c4 c5
    go_wp2_with fail
    go_ret
    exact ⟨rfl, HI1.out, HB1.out, HK1.out⟩
  rw [if_neg q1] at h
  by_cases q2 : a0 = 2
  · rw [if_pos q2] at h
    have d0 : (a0 == 0) = false := by simp [q0]
    have d1 : (a0 == 1) = false := by simp [q1]
    have d2 : (a0 == 2) = true := by simp [q2]
    obtain ⟨⟨z0, z1, z2, z3, z4, z5, z6, z7⟩, hq, h⟩ := Option.bind_eq_some_iff.mp h
    obtain ⟨rfl, rfl, rfl, rfl, rfl, rfl, rfl, rfl⟩ : z0 = r1 ∧ z1 = r2 ∧ z2 = r3 ∧ z3 = r4 ∧ z4 = r5 ∧ z5 = r6 ∧ z6 = r7 ∧ z7 = r8 := by simpa using Option.some.inj h
    have HQ := Aside0.mk hq
    clear h hq q0 q1 q2
    go_enter Tryd.func17, Tryd.ntmps17
    go_wp2_with fail
    rw [HW.out]
    refine (tikref22_Deck_Play.calls g s0 s1 s2 s3 s4 s5 s6 a1 a2 a3 z0 z1 z2 z3 z4 z5 z6 z7 w0 _ HI.out HB.out HQ.out).mono ?_
    rintro e1 w1 ⟨rfl, hi, hb, hk⟩
    have HI1 := Aside0.mk hi
    have HB1 := Aside0.mk hb
    have HK1 := Aside0.mk (KeepBut.trans HK.out hk (.inl rfl))
    clear hi hb hk c0 c1 c2 c3 c4 c5
    go_wp2_with fail
    go_ret
    exact ⟨rfl, HI1.out, HB1.out, HK1.out⟩
  rw [if_neg q2] at h
  by_cases q3 : a0 = 3
  · rw [if_pos q3] at h
    have d0 : (a0 == 0) = false := by simp [q0]
    have d1 : (a0 == 1) = false := by simp [q1]
    have d2 : (a0 == 2) = false := by simp [q2]
    have d3 : (a0 == 3) = true := by simp [q3]
    obtain ⟨⟨z0, z1, z2, z3, z4, z5, z6, z7⟩, hq, h⟩ := Option.bind_eq_some_iff.mp h
    obtain ⟨rfl, rfl, rfl, rfl, rfl, rfl, rfl, rfl⟩ : z0 = r1 ∧ z1 = r2 ∧ z2 = r3 ∧ z3 = r4 ∧ z4 = r5 ∧ z5 = r6 ∧ z6 = r7 ∧ z7 = r8 := by simpa using Option.some.inj h
    have HQ := Aside0.mk hq
    clear h hq q0 q1 q2 q3
    go_enter Tryd.func17, Tryd.ntmps17
    go_wp2_with fail
    rw [HW.out]
    refine (tikref22_Deck_Seek.calls g s0 s1 s2 s3 s4 s5 s6 a1 a2 a3 a4 z0 z1 z2 z3 z4 z5 z6 z7 w0 _ HI.out HB.out HQ.out).mono ?_
    rintro e1 w1 ⟨rfl, hi, hb, hk⟩
    have HI1 := Aside0.mk hi
    have HB1 := Aside0.mk hb
    have HK1 := Aside0.mk (KeepBut.trans HK.out hk (.inl rfl))
    clear hi hb hk c0 c1 c2 c3 c4 c5
    go_wp2_with fail
    go_ret
    exact ⟨rfl, HI1.out, HB1.out, HK1.out⟩
  rw [if_neg q3] at h
  by_cases q4 : a0 = 4
  · rw [if_pos q4] at h
    have d0 : (a0 == 0) = false := by simp [q0]
    have d1 : (a0 == 1) = false := by simp [q1]
    have d2 : (a0 == 2) = false := by simp [q2]
    have d3 : (a0 == 3) = false := by simp [q3]
    have d4 : (a0 == 4) = true := by simp [q4]
    obtain ⟨⟨z0, z1, z2, z3, z4, z5, z6, z7⟩, hq, h⟩ := Option.bind_eq_some_iff.mp h
    obtain ⟨rfl, rfl, rfl, rfl, rfl, rfl, rfl, rfl⟩ : z0 = r1 ∧ z1 = r2 ∧ z2 = r3 ∧ z3 = r4 ∧ z4 = r5 ∧ z5 = r6 ∧ z6 = r7 ∧ z7 = r8 := by simpa using Option.some.inj h
    have HQ := Aside0.mk hq
    clear h hq q0 q1 q2 q3 q4
    go_enter Tryd.func17, Tryd.ntmps17
    go_wp2_with fail
    rw [HW.out]
    refine (tikref22_Deck_Speed.calls k g s0 s1 s2 s3 s4 s5 s6 a1 a5 z0 z1 z2 z3 z4 z5 z6 z7 w0 _ HI.out HB.out HQ.out).mono ?_
    rintro e1 w1 ⟨rfl, hi, hb, hk⟩
    have HI1 := Aside0.mk hi
    have HB1 := Aside0.mk hb
    have HK1 := Aside0.mk (KeepBut.trans HK.out hk (.inl rfl))
    clear hi hb hk c0 c1 c2 c3 c4 c5
    go_wp2_with fail
    go_ret
    exact ⟨rfl, HI1.out, HB1.out, HK1.out⟩
  rw [if_neg q4] at h
  have d0 : (a0 == 0) = false := by simp [q0]
  have d1 : (a0 == 1) = false := by simp [q1]
  have d2 : (a0 == 2) = false := by simp [q2]
  have d3 : (a0 == 3) = false := by simp [q3]
  have d4 : (a0 == 4) = false := by simp [q4]
  obtain ⟨⟨z0, z1, z2, z3, z4, z5, z6⟩, hq, h⟩ := Option.bind_eq_some_iff.mp h
  obtain ⟨rfl, rfl, rfl, rfl, rfl, rfl, rfl, rfl⟩ : (0 : Int) = r1 ∧ z0 = r2 ∧ z1 = r3 ∧ z2 = r4 ∧ z3 = r5 ∧ z4 = r6 ∧ z5 = r7 ∧ z6 = r8 := by simpa using Option.some.inj h
  have HQ := Aside0.mk hq
  clear h hq q0 q1 q2 q3 q4
  go_enter Tryd.func17, Tryd.ntmps17
  go_wp2_with fail
  rw [HW.out]
  refine (tikref22_Deck_Tick.calls k g s0 s1 s2 s3 s4 s5 s6 a1 a2 a3 z0 z1 z2 z3 z4 z5 z6 w0 _ HI.out HB.out HQ.out).mono ?_
  rintro e1 w1 ⟨rfl, hi, hb, hk⟩
  have HI1 := Aside0.mk hi
  have HB1 := Aside0.mk hb
  have HK1 := Aside0.mk (KeepBut.trans HK.out hk (.inl rfl))
  clear hi hb hk c0 c1 c2 c3 c4 c5
  go_wp2_with fail
  go_ret
  exact ⟨rfl, HI1.out, HB1.out, HK1.out⟩
end Go.Proofs.YtlgfmmkabnbllaaDoor.Hand
