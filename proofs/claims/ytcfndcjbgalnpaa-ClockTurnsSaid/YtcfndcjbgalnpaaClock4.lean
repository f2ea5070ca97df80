/-
  ClockSpeeds where New refuses, and whole.
-/
import Derived.Test.YtcfndcjbgalnpaaPureC2
namespace Go.Proofs.Ytcfndcjbgalnpaa.Hand
open Go.RowKit Go.Proofs.YtcfndcjbgalnpaaW.PrintWords Go.Proofs.YtcfndcjbgalnpaaW.PrintLast Go.Proofs.YtcfndcjbgalnpaaW.PrintMore Go.Proofs.Ytcfndcjbgalnpaa.PA Go.Proofs.Ytcfndcjbgalnpaa.PB Go.Proofs.Ytcfndcjbgalnpaa.PC Go.Proofs.Ytcfndcjbgalnpaa.PL

theorem two_new (w : World) (o0 o1 : Obj) : ∃ W, (w.alloc o0).alloc o1 = W ∧ W.heap[w.heap.size]? = some o0 ∧ W.heap[w.heap.size + 1]? = some o1 ∧ Below w.heap.size w W := by
  obtain ⟨W, hW, b0, hb⟩ := one_new w o0
  obtain ⟨V, hV, b1, hb2⟩ := one_new W o1
  have hs : W.heap.size = w.heap.size + 1 := by rw [← hW]; simp
  rw [hs] at b1
  refine ⟨V, by rw [hW, hV], blk_old b0 hb2, b1, Below.trans hb (below_mono hb hb2)⟩
abbrev NewNil (a0 a1 n d : Int) : Prop := ∀ w, Calls Try.prog 8 #[.int .u64 a0, .int .u64 a1, .agg #[.int .u64 n, .int .u64 d]] w fun e w' => e = .returned (.tuple #[.pointer none, .int .i64 1]) ∧ Below w.heap.size w w'
abbrev NewAny (a0 a1 n d : Int) : Prop := ∀ w, Calls Try.prog 8 #[.int .u64 a0, .int .u64 a1, .agg #[.int .u64 n, .int .u64 d]] w fun e w' => ∃ q x, e = .returned (.tuple #[.pointer q, .int .i64 x]) ∧ Below w.heap.size w w'
theorem speeds_no1 {w : World} (a0 a1 n d n2 d2 : Int) (A : Option Addr) (len c : Nat) (hN : NewNil a0 a1 n d) (hM : NewAny a0 a1 n2 d2) :
    Calls Try.prog 4 #[.int .u64 a0, .int .u64 a1, .agg #[.int .u64 n, .int .u64 d], .agg #[.int .u64 n2, .int .u64 d2], .slice A len c] w fun e w' => e = .returned (.bool true) ∧ Below w.heap.size w w' := by
  obtain ⟨W, hW, b0, b1, hWb⟩ := two_new w (.cells #[.int .u64 n, .int .u64 d] 24) (.cells #[.int .u64 n2, .int .u64 d2] 24)
  have HW := Aside0.mk hW
  have HWb := Aside0.mk hWb
  have B0 := Aside0.mk b0
  have B1 := Aside0.mk b1
  have HN := Aside0.mk hN
  have HM := Aside0.mk hM
  have HF := Aside0.mk (fun w => tiklaw22_first.calls true w first_true)
  clear hW hWb b0 b1 hN hM
  go_enter Try.func4, Try.ntmps4
  go_wp2_with fail
  rw [HW.out]
  refine (HF.out _).mono ?_
  rintro en w1 ⟨rfl, hb1⟩
  have b0 := blk_old B0.out hb1
  have b1 := blk_old B1.out hb1
  have B0' := Aside0.mk b0
  have B1' := Aside0.mk b1
  have c0 := (blk_cell b0 0).trans (show _ = some (Value.int .u64 n) from rfl)
  have c1 := (blk_cell b0 1).trans (show _ = some (Value.int .u64 d) from rfl)
  have HB1 := Aside0.mk (Below.trans HWb.out (below_mono HWb.out hb1))
  clear b0 b1 hb1
  go_wp2_with fail
  refine (HN.out _).mono ?_
  rintro en w2 ⟨rfl, hb2⟩
  have b1 := blk_old B1'.out hb2
  clear c0 c1
  have c0 := (blk_cell b1 0).trans (show _ = some (Value.int .u64 n2) from rfl)
  have c1 := (blk_cell b1 1).trans (show _ = some (Value.int .u64 d2) from rfl)
  have HB2 := Aside0.mk (below_step HB1.out hb2)
  clear b1 hb2
  go_wp2_with fail
  refine (HM.out _).mono ?_
  rintro en w3 ⟨q, x, rfl, hb3⟩
  have HB3 := Aside0.mk (below_step HB2.out hb3)
  clear hb3
  go_wp2_with fail
  refine (HF.out _).mono ?_
  rintro en w4 ⟨rfl, hb4⟩
  go_wp2
  go_ret
  exact ⟨rfl, below_step HB3.out hb4⟩
theorem speeds_no2 {w : World} (a0 a1 n d n2 d2 : Int) (A : Option Addr) (len c : Nat) (h1 : rate_May.f n d = some true) (g0 : a0 ≤ 4611686018427387904) (g1 : a1 ≤ 4611686018427387904) (hM : NewNil a0 a1 n2 d2) :
    Calls Try.prog 4 #[.int .u64 a0, .int .u64 a1, .agg #[.int .u64 n, .int .u64 d], .agg #[.int .u64 n2, .int .u64 d2], .slice A len c] w fun e w' => e = .returned (.bool true) ∧ Below w.heap.size w w' := by
  obtain ⟨W, hW, b0, b1, hWb⟩ := two_new w (.cells #[.int .u64 n, .int .u64 d] 24) (.cells #[.int .u64 n2, .int .u64 d2] 24)
  have HW := Aside0.mk hW
  have HWb := Aside0.mk hWb
  have B0 := Aside0.mk b0
  have B1 := Aside0.mk b1
  have HN := Aside0.mk (fun w => new_yes (w := w) a0 a1 n d h1 (decide_eq_false (by omega)) (decide_eq_false (by omega)))
  have HM := Aside0.mk hM
  have HF := Aside0.mk (fun w => tiklaw22_first.calls true w first_true)
  clear hW hWb b0 b1 hM h1 g0 g1
  go_enter Try.func4, Try.ntmps4
  go_wp2_with fail
  rw [HW.out]
  refine (HF.out _).mono ?_
  rintro en w1 ⟨rfl, hb1⟩
  have b0 := blk_old B0.out hb1
  have b1 := blk_old B1.out hb1
  have B0' := Aside0.mk b0
  have B1' := Aside0.mk b1
  have c0 := (blk_cell b0 0).trans (show _ = some (Value.int .u64 n) from rfl)
  have c1 := (blk_cell b0 1).trans (show _ = some (Value.int .u64 d) from rfl)
  have HB1 := Aside0.mk (Below.trans HWb.out (below_mono HWb.out hb1))
  clear b0 b1 hb1
  go_wp2_with fail
  refine (HN.out _).mono ?_
  rintro en w2 ⟨g, rfl, _, _, hb2⟩
  have b1 := blk_old B1'.out hb2
  clear c0 c1
  have c0 := (blk_cell b1 0).trans (show _ = some (Value.int .u64 n2) from rfl)
  have c1 := (blk_cell b1 1).trans (show _ = some (Value.int .u64 d2) from rfl)
  have HB2 := Aside0.mk (below_step HB1.out hb2)
  clear b1 hb2
  go_wp2_with fail
  refine (HM.out _).mono ?_
  rintro en w3 ⟨rfl, hb3⟩
  have HB3 := Aside0.mk (below_step HB2.out hb3)
  clear hb3
  go_wp2_with fail
  refine (HF.out _).mono ?_
  rintro en w4 ⟨rfl, hb4⟩
  go_wp2
  go_ret
  exact ⟨rfl, below_step HB3.out hb4⟩
theorem new_never (a0 a1 n d : Int) : NewAny a0 a1 n d := by
  rcases new_any a0 a1 n d (may_some n d) with h | h
  · obtain ⟨m, b0, b1⟩ := new_open h
    intro w
    refine (new_yes a0 a1 n d m (decide_eq_false (by omega)) (decide_eq_false (by omega))).mono ?_
    rintro en w' ⟨g, rfl, _, _, hb⟩
    exact ⟨_, _, rfl, hb⟩
  · intro w
    refine (h w).mono ?_
    rintro en w' ⟨rfl, hb⟩
    exact ⟨_, _, rfl, hb⟩
theorem speeds_all (a0 a1 n d n2 d2 : Int) (A : Option Addr) (c : Nat) (l : List Int) (w : World) (hr : Kd.C (Kd.int .u64) w A l.length l) (hc : l.length ≤ c) (h0 : U64 a0) (h1 : U64 a1) (hn : U64 n) (hd : U64 d) (hn2 : U64 n2) (hd2 : U64 d2) (hw : W64 l) :
    Calls Try.prog 4 #[.int .u64 a0, .int .u64 a1, .agg #[.int .u64 n, .int .u64 d], .agg #[.int .u64 n2, .int .u64 d2], .slice A l.length c] w fun e w' => e = .returned (.bool true) ∧ Below w.heap.size w w' := by
  rcases new_any a0 a1 n d (may_some n d) with h | h
  · obtain ⟨m, b0, b1⟩ := new_open h
    rcases new_any a0 a1 n2 d2 (may_some n2 d2) with k | k
    · obtain ⟨m2, _, _⟩ := new_open k
      exact tiklaw22_ClockSpeeds.calls 1000 a0 a1 n d n2 d2 A c l true w hr hc ⟨rfl⟩ (speeds_any a0 a1 n d n2 d2 l m m2 ⟨hn, hd⟩ ⟨hn2, hd2⟩ h0.1 b0 h1.1 b1 hw)
    · exact speeds_no2 a0 a1 n d n2 d2 A l.length c m b0 b1 k
  · exact speeds_no1 a0 a1 n d n2 d2 A l.length c h (new_never a0 a1 n2 d2)
end Go.Proofs.Ytcfndcjbgalnpaa.Hand
