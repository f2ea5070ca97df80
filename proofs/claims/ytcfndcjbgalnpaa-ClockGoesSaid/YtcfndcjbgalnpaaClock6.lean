/-
  tikref22.NewClock, by hand, in the printed contracts' form; what it refuses.
-/
import Derived.Test.YtcfndcjbgalnpaaRate2
import Derived.Test.YtcfndcjbgalnpaaPDx3
namespace Go.Proofs.Ytcfndcjbgalnpaa.Hand
open Go.RowKit Go.Proofs.YtcfndcjbgalnpaaW.PrintWords Go.Proofs.YtcfndcjbgalnpaaW.PrintLast Go.Proofs.YtcfndcjbgalnpaaW.PrintMore Go.Proofs.Ytcfndcjbgalnpaa.PA Go.Proofs.Ytcfndcjbgalnpaa.PB Go.Proofs.Ytcfndcjbgalnpaa.PD

theorem ref_no {w : World} (a0 a1 n d : Int) (b b1 b2 : Bool) (h : tikref1_May.f n d = some b) (h1 : decide (a0 > 4611686018427387904) = b1) (h2 : decide (a1 > 4611686018427387904) = b2) (hb : b = false ∨ b1 = true ∨ b2 = true) :
    Calls Try.prog 16 #[.int .u64 a0, .int .u64 a1, .agg #[.int .u64 n, .int .u64 d]] w fun e w' => e = .returned (.tuple #[.pointer none, .int .i64 1]) ∧ Below w.heap.size w w' := by
  obtain ⟨W, hW, b0, hWb⟩ := one_new w (.cells #[.int .u64 n, .int .u64 d] 45)
  have HW := Aside0.mk hW
  have HWb := Aside0.mk hWb
  have HM := Aside0.mk (tikref1_May.calls n d b W h)
  have c0 := blk_cell b0 0
  have c1 := blk_cell b0 1
  clear hW hWb h b0
  go_enter Try.func16, Try.ntmps16
  go_wp2_with fail
  rw [HW.out]
  refine HM.out.mono ?_
  rintro en w1 ⟨rfl, hb1⟩
  cases b
  · go_wp2
    go_ret2
    exact ⟨rfl, Below.trans HWb.out (below_mono HWb.out hb1)⟩
  · cases b1
    · cases b2
      · rcases hb with h | h | h <;> cases h
      · go_wp2
        go_ret2
        exact ⟨rfl, Below.trans HWb.out (below_mono HWb.out hb1)⟩
    · go_wp2
      go_ret2
      exact ⟨rfl, Below.trans HWb.out (below_mono HWb.out hb1)⟩
theorem ref_yes {w : World} (a0 a1 n d : Int) (h : tikref1_May.f n d = some true) (h1 : decide (a0 > 4611686018427387904) = false) (h2 : decide (a1 > 4611686018427387904) = false) :
    Calls Try.prog 16 #[.int .u64 a0, .int .u64 a1, .agg #[.int .u64 n, .int .u64 d]] w fun e w' => ∃ g, e = .returned (.tuple #[.pointer (some ⟨g, 0, none⟩), .int .i64 0]) ∧ w'.heap[g]? = some (.cells #[.int .u64 a0, .int .u64 a1, .int .u64 0, .int .u64 n, .int .u64 d] 51 (0, 0)) ∧ w.heap.size ≤ g ∧ Below w.heap.size w w' := by
  obtain ⟨W, hW, b0, hWb⟩ := one_new w (.cells #[.int .u64 n, .int .u64 d] 45)
  have HW := Aside0.mk hW
  have HWb := Aside0.mk hWb
  have B0 := Aside0.mk b0
  have HM := Aside0.mk (tikref1_May.calls n d true W h)
  clear hW hWb h b0
  go_enter Try.func16, Try.ntmps16
  go_wp2_with fail
  rw [HW.out]
  refine HM.out.mono ?_
  rintro en w1 ⟨rfl, hb1⟩
  have b1 := blk_old B0.out hb1
  have c0 := (blk_cell b1 0).trans (show _ = some (Value.int .u64 n) from rfl)
  have c1 := (blk_cell b1 1).trans (show _ = some (Value.int .u64 d) from rfl)
  have HB1 := Aside0.mk hb1
  clear b1 hb1
  go_wp2
  go_ret2
  have hbw : Below w.heap.size w w1 := Below.trans HWb.out (below_mono HWb.out HB1.out)
  exact ⟨w1.heap.size, rfl, by simpa using heap_alloc_new w1 _, hbw.size, Below.alloc hbw hbw.size _⟩
def tikref22_NewClock.f (a0 a1 a2_0 a2_1 : Int) : Option (Int × Int × Int × Int × Int × Int) := if tikref1_May.f a2_0 a2_1 = some true ∧ a0 ≤ 4611686018427387904 ∧ a1 ≤ 4611686018427387904 then some (a0, a1, 0, a2_0, a2_1, 0) else none
theorem tikref22_NewClock.calls (a0 a1 a2_0 a2_1 : Int) (r1 r2 r3 r4 r5 r6 : Int) (w0 w : World) (hB : Below w0.heap.size w0 w) (h : tikref22_NewClock.f a0 a1 a2_0 a2_1 = some (r1, r2, r3, r4, r5, r6)) :
    Calls Try.prog 16 #[.int .u64 a0, .int .u64 a1, .agg #[.int .u64 a2_0, .int .u64 a2_1]] w fun e w' => ∃ g, e = .returned (.tuple #[.pointer (some ⟨g, 0, none⟩), .int .i64 r6]) ∧ IsS51 w0 w' g r1 r2 r3 r4 r5 ∧ Below w0.heap.size w0 w' ∧ Below w.heap.size w w' ∧ w.heap.size ≤ g := by
  unfold tikref22_NewClock.f at h
  split at h
  case isFalse => cases h
  rename_i hc
  have hh := Option.some.inj h
  obtain ⟨rfl, rfl, rfl, rfl, rfl, rfl⟩ : a0 = r1 ∧ a1 = r2 ∧ (0 : Int) = r3 ∧ a2_0 = r4 ∧ a2_1 = r5 ∧ (0 : Int) = r6 := by simpa using hh
  refine (ref_yes a0 a1 a2_0 a2_1 hc.1 (decide_eq_false (by omega)) (decide_eq_false (by omega))).mono ?_
  rintro en w' ⟨g, rfl, hg, hge, hb⟩
  exact ⟨g, rfl, ⟨hg, Nat.le_trans hB.size hge⟩, below_step hB hb, hb, hge⟩

def refAt.f (k : Nat) (s0 s1 s2 s3 s4 a1 : Int) : Option Int := (tikref22_Clock_At.f k s0 s1 s2 s3 s4 a1).bind fun b => if b.2 = (s0, s1, s2, s3, s4) then some b.1 else none
theorem refAt.mono : ∀ a0 a1 a2 a3 a4 a5 k, LeO (refAt.f k a0 a1 a2 a3 a4 a5) (refAt.f (k + 1) a0 a1 a2 a3 a4 a5) :=
  fun a0 a1 a2 a3 a4 a5 k => LeO.bind (tikref22_Clock_At.mono a0 a1 a2 a3 a4 a5 k) (fun _ => LeO.refl _)
theorem refAt.calls (k : Nat) (g : Nat) (s0 s1 s2 s3 s4 a1 r1 : Int) (w0 w : World) (hI : IsS51 w0 w g s0 s1 s2 s3 s4) (hB : Below w0.heap.size w0 w) (h : refAt.f k s0 s1 s2 s3 s4 a1 = some r1) :
    Calls Try.prog 21 #[.pointer (some ⟨g, 0, none⟩), .int .u64 a1] w fun e w' => e = .returned (.int .u64 r1) ∧ IsS51 w0 w' g s0 s1 s2 s3 s4 ∧ Below w0.heap.size w0 w' ∧ KeepBut w w' g none := by
  unfold refAt.f at h
  obtain ⟨b, hb, h2⟩ := Option.bind_eq_some_iff.mp h
  obtain ⟨r, q1, q2, q3, q4, q5⟩ := b
  by_cases hc : (q1, q2, q3, q4, q5) = (s0, s1, s2, s3, s4)
  · have hh := (if_pos hc).symm.trans h2
    obtain ⟨rfl, rfl, rfl, rfl, rfl⟩ : q1 = s0 ∧ q2 = s1 ∧ q3 = s2 ∧ q4 = s3 ∧ q5 = s4 := by simpa using hc
    obtain rfl : r = r1 := Option.some.inj hh
    exact tikref22_Clock_At.calls k g q1 q2 q3 q4 q5 a1 r q1 q2 q3 q4 q5 w0 w hI hB hb
  · have hh := (if_neg hc).symm.trans h2
    cases hh
end Go.Proofs.Ytcfndcjbgalnpaa.Hand
