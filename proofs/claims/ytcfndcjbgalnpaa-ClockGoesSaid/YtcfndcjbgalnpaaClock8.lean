/-
  ClockGoes where New refuses, and whole.
-/
import Derived.Test.YtcfndcjbgalnpaaPureC8
namespace Go.Proofs.Ytcfndcjbgalnpaa.Hand
open Go.RowKit Go.Proofs.YtcfndcjbgalnpaaW.PrintWords Go.Proofs.YtcfndcjbgalnpaaW.PrintLast Go.Proofs.YtcfndcjbgalnpaaW.PrintMore Go.Proofs.Ytcfndcjbgalnpaa.PA Go.Proofs.Ytcfndcjbgalnpaa.PB Go.Proofs.Ytcfndcjbgalnpaa.PC Go.Proofs.Ytcfndcjbgalnpaa.PD Go.Proofs.Ytcfndcjbgalnpaa.PG Go.Proofs.Ytcfndcjbgalnpaa.PF

abbrev RefNil (a0 a1 n d : Int) : Prop := ∀ w, Calls Try.prog 16 #[.int .u64 a0, .int .u64 a1, .agg #[.int .u64 n, .int .u64 d]] w fun e w' => e = .returned (.tuple #[.pointer none, .int .i64 1]) ∧ Below w.heap.size w w'
theorem ref_nil {a0 a1 n d : Int} (hn : U64 n) (hd : U64 d) (h : ¬ (rate_May.f n d = some true ∧ a0 ≤ 4611686018427387904 ∧ a1 ≤ 4611686018427387904)) : RefNil a0 a1 n d := by
  intro w
  have hm := ref_may n d hn hd
  cases hM : rate_May.f n d with
  | none => exact absurd hM (may_some n d)
  | some b =>
    rw [hM] at hm
    refine ref_no a0 a1 n d b _ _ hm rfl rfl ?_
    cases b
    · exact .inl rfl
    · right
      by_cases h1 : a0 > 4611686018427387904
      · exact .inl (decide_eq_true h1)
      · exact .inr (decide_eq_true (by
          by_cases h2 : a1 > 4611686018427387904
          · exact h2
          · exact absurd ⟨hM, by omega, by omega⟩ h))
set_option maxRecDepth 100000 in
set_option maxHeartbeats 8000000 in
theorem goes_no {w : World} (a0 a1 n d : Int) (A : Option Addr) (len c : Nat) (big : Bool) (hb : decide ((len : Int) > 200) = big) (hN : NewNil a0 a1 n d) (hX : RefNil a0 a1 n d) :
    Calls Try.prog 6 #[.int .u64 a0, .int .u64 a1, .agg #[.int .u64 n, .int .u64 d], .slice A len c] w fun e w' => e = .returned (.bool true) ∧ Below w.heap.size w w' := by
  obtain ⟨W, hW, b0, hWb⟩ := one_new w (.cells #[.int .u64 n, .int .u64 d] 24)
  have HW := Aside0.mk hW
  have HWb := Aside0.mk hWb
  have B0 := Aside0.mk b0
  have HN := Aside0.mk hN
  have HX := Aside0.mk hX
  have HP := Aside0.mk (fun w => tiklaw22_plain.calls n d n d w rfl)
  have HF := Aside0.mk (fun w => tiklaw22_first.calls true w first_true)
  clear hW hWb b0 hN hX
  go_enter Try.func6, Try.ntmps6
  go_wp2_with fail
  rw [HW.out]
  refine (HF.out _).mono ?_
  rintro en w1 ⟨rfl, hb1⟩
  have b0 := blk_old B0.out hb1
  have B0' := Aside0.mk b0
  have c0 := (blk_cell b0 0).trans (show _ = some (Value.int .u64 n) from rfl)
  have c1 := (blk_cell b0 1).trans (show _ = some (Value.int .u64 d) from rfl)
  have HB1 := Aside0.mk (Below.trans HWb.out (below_mono HWb.out hb1))
  clear b0 hb1
  cases big
  · go_wp2_with fail
    refine (HN.out _).mono ?_
    rintro en w2 ⟨rfl, hb2⟩
    have b0 := blk_old B0'.out hb2
    clear c0 c1
    have c0 := (blk_cell b0 0).trans (show _ = some (Value.int .u64 n) from rfl)
    have c1 := (blk_cell b0 1).trans (show _ = some (Value.int .u64 d) from rfl)
    have HB2 := Aside0.mk (below_step HB1.out hb2)
    clear b0 hb2
    go_wp2_with fail
    refine (HP.out _).mono ?_
    rintro en w3 ⟨rfl, hb3⟩
    have HB3 := Aside0.mk (below_step HB2.out hb3)
    clear hb3
    go_wp2_with fail
    refine (HX.out _).mono ?_
    rintro en w4 ⟨rfl, hb4⟩
    have HB4 := Aside0.mk (below_step HB3.out hb4)
    clear hb4
    go_wp2_with fail
    refine wp_loop_once ?_
    go_wp2_with fail
    refine (HF.out _).mono ?_
    rintro en w5 ⟨rfl, hb5⟩
    go_wp2
    go_ret
    exact ⟨rfl, below_step HB4.out hb5⟩
  · go_wp2_with fail
    refine (HF.out _).mono ?_
    rintro en w5 ⟨rfl, hb5⟩
    go_wp2
    go_ret
    exact ⟨rfl, below_step HB1.out hb5⟩
theorem goes_all (a0 a1 n d : Int) (A : Option Addr) (c : Nat) (l : List S48) (w : World) (hr : Kd.C k48 w A l.length l) (hc : l.length ≤ c) (h0 : U64 a0) (h1 : U64 a1) (hn : U64 n) (hd : U64 d) (hw : ∀ o ∈ l, OkOp o) :
    Calls Try.prog 6 #[.int .u64 a0, .int .u64 a1, .agg #[.int .u64 n, .int .u64 d], .slice A l.length c] w fun e w' => e = .returned (.bool true) ∧ Below w.heap.size w w' := by
  by_cases h : rate_May.f n d = some true ∧ a0 ≤ 4611686018427387904 ∧ a1 ≤ 4611686018427387904
  · exact tiklaw22_ClockGoes.calls 1000 a0 a1 n d A c l true w hr hc ⟨rfl⟩ (goes_any a0 a1 n d l h.1 hn hd h0.1 h.2.1 h1.1 h.2.2 hw)
  · rcases new_any a0 a1 n d (may_some n d) with k | k
    · exact absurd (new_open k) h
    · exact goes_no a0 a1 n d A l.length c _ rfl k (ref_nil hn hd h)
end Go.Proofs.Ytcfndcjbgalnpaa.Hand
