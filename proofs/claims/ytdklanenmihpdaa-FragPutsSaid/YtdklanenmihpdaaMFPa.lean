/- Texts of this claim, put together. -/
import Derived.RangeFuncNested
import Derived.RangeFuncBound
import Derived.RangeFuncCalls
import Derived.RangeFuncLeaves
import Derived.RangeFuncBox
import Derived.Shelf.Abstract
import Derived.WalkKit
import Derived.OwnWalkIn
import Derived.TacticsInMore
import Derived.RegionIn
import Derived.LoopNIn
import Derived.LoopIn
import Derived.Maps.AppendAt
import Derived.Test.YtdklanenmihpdaaProg
set_option linter.unusedVariables false
set_option linter.unusedSimpArgs false
namespace Go.Proofs.Ytdklanenmihpdaa.Chunks
open Go.RowKit Go.Shelf
attribute [local go_sem] Oper.semAt_some
def chAt (A : Option Addr) (k : Nat) : Option Addr := A.map (·.add (256 * k))
def chLen (len k : Nat) : Nat := min 256 (len - 256 * k)
def ch (A : Option Addr) (len k : Nat) : Value := .slice (chAt A k) (chLen len k) (chLen len k)
def nch (len : Nat) : Nat := (len + 255) / 256
theorem range_snoc (k : Nat) : List.range (k + 1) = List.range k ++ [k] := List.range_succ
theorem grownBy_drew' (w : World) : w.grownBy w.drew none := ⟨rfl, rfl, rfl, Nat.le_refl _, fun _ _ _ => rfl⟩
structure HidL (p : Prop) : Prop where mk :: (out : p)
set_option maxRecDepth 100000 in
set_option maxHeartbeats 2000000 in
theorem chunk1_in (F : Fence) (n : Nat) (hf : F.fn 59) (hro : F.round = none) (hn : 1 ≤ n) (l Bs Bn n₀ : Nat) (A : Option Addr) (len cap : Nat) (hA : 0 < len → A ≠ none) (hcap : len ≤ cap) (hmax : len ≤ 1048576) (hb1 : Bs < n₀) (hb2 : Bn < n₀) (J Jx : List Nat → World → Prop)
    (hY : ∀ pre x W, J pre W → pre.length < nch len → YieldAt F (n - 1) Try.prog l #[ch A len x] W fun e W' =>
      (e = .returned (.bool true) ∧ J (pre ++ [x]) W' ∧ Below n₀ W W') ∨ (e = .returned (.bool false) ∧ Jx (pre ++ [x]) W'))
    (W : World) (hJ : AbidesFrom W.heap.size J) (hBs : W.cell? ⟨Bs, 0, none⟩ = some (.slice A len cap)) (hBn : W.cell? ⟨Bn, 0, none⟩ = some (.int .i64 256)) (h0 : J [] W) :
    CallsIn F n Try.prog 59 #[.func (.yield l) #[] #[], .pointer (some ⟨Bs, 0, none⟩), .pointer (some ⟨Bn, 0, none⟩)] W fun e W' => (∃ v, e = .returned v) ∧
      ((∃ ys, ys = List.range (nch len) ∧ J ys W') ∨ (∃ pre, (∃ k, k ≤ nch len ∧ pre = List.range k) ∧ Jx pre W')) := by
  refine callsIn_of_wp Try.func59 rfl hf ?_ hro
  simp only [Try.ntmps59, List.size_toArray, List.length_cons, List.length_nil, Nat.reduceAdd, Nat.reduceSub, Array.replicate_succ, Array.replicate_zero, List.push_toArray, List.append_toArray, List.nil_append, List.cons_append]
  gi_wp2
  gi_loopw [4] (fun i wr => ∃ k : Nat, k ≤ nch len ∧ i = .int .i64 (256 * (k : Int)) ∧ J (List.range k) wr ∧ Below n₀ W wr)
    (fun i _ => len + 256 - (intOf i).toNat)
  case atStart => exact ⟨0, Nat.zero_le _, rfl, h0, Below.refl _ _⟩
  case round =>
    obtain ⟨k, hk, rfl, hJs, hnx⟩ := hrel
    have hs1 : wr.cell? ⟨Bs, 0, none⟩ = some (.slice A len cap) := (hnx.cell (p := ⟨Bs, 0, none⟩) hb1).trans hBs
    have hn1 : wr.cell? ⟨Bn, 0, none⟩ = some (.int .i64 256) := (hnx.cell (p := ⟨Bn, 0, none⟩) hb2).trans hBn
    by_cases hlt : 256 * k < len
    · obtain ⟨ad, rfl⟩ : ∃ ad, A = some ad := by
        cases A with
        | none => exact absurd rfl (hA (by omega))
        | some ad => exact ⟨ad, rfl⟩
      have hJd : J (List.range k) wr.drew := hJ _ _ _ none hJs (grownBy_drew' wr) (fun r e => by cases e)
      have hkn : k < nch len := by unfold nch; omega
      obtain ⟨fn, tmps, assign, body, hy, hR⟩ := hY _ k wr.drew hJd (by simpa using hkn)
      have HL := HidL.mk (And.intro hlt hkn)
      by_cases h256 : 256 ≤ len - 256 * k
      · have ev : ch (some ad) len k = .slice (some (ad.add (256 * k))) 256 256 := by
          unfold ch chLen chAt
          rw [Nat.min_eq_left h256]
          rfl
        rw [ev] at hy
        clear ev
        gi_wp2
        gi_region
        all_goals
          gi_wp2
          refine hR.mono ?_
          rintro e W3 (⟨rfl, hJ3, hk3⟩ | ⟨rfl, hJx3⟩)
          · have hs3 : W3.cell? ⟨Bs, 0, none⟩ = some (.slice (some ad) len cap) := (hk3.cell (p := ⟨Bs, 0, none⟩) hb1).trans hs1
            have hn3 : W3.cell? ⟨Bn, 0, none⟩ = some (.int .i64 256) := (hk3.cell (p := ⟨Bn, 0, none⟩) hb2).trans hn1
            gi_wp2
            go_roundw
            case rel => exact ⟨k + 1, by have := HL.out; omega, by congr 1 <;> omega, by rw [range_snoc]; exact hJ3, (Below.trans hnx (Below.drew (Below.refl _ _))).trans hk3⟩
            case measure => have := HL.out; simp [intOf] <;> omega
          · gi_wp2
            refine bodyPost_ret (results_none rfl _ _ _) rfl ?_
            exact ⟨⟨_, rfl⟩, .inr ⟨_, ⟨k + 1, by have := HL.out; omega, (range_snoc _).symm⟩, hJx3⟩⟩
      · have ev : ch (some ad) len k = .slice (some (ad.add (256 * k))) (len - 256 * k) (len - 256 * k) := by
          unfold ch chLen chAt
          rw [Nat.min_eq_right (by omega)]
          rfl
        rw [ev] at hy
        clear ev
        gi_wp2
        gi_region
        all_goals
          gi_wp2
          refine hR.mono ?_
          rintro e W3 (⟨rfl, hJ3, hk3⟩ | ⟨rfl, hJx3⟩)
          · have hs3 : W3.cell? ⟨Bs, 0, none⟩ = some (.slice (some ad) len cap) := (hk3.cell (p := ⟨Bs, 0, none⟩) hb1).trans hs1
            have hn3 : W3.cell? ⟨Bn, 0, none⟩ = some (.int .i64 256) := (hk3.cell (p := ⟨Bn, 0, none⟩) hb2).trans hn1
            gi_wp2
            go_roundw
            case rel => exact ⟨k + 1, by have := HL.out; omega, by congr 1 <;> omega, by rw [range_snoc]; exact hJ3, (Below.trans hnx (Below.drew (Below.refl _ _))).trans hk3⟩
            case measure => have := HL.out; simp [intOf] <;> omega
          · gi_wp2
            refine bodyPost_ret (results_none rfl _ _ _) rfl ?_
            exact ⟨⟨_, rfl⟩, .inr ⟨_, ⟨k + 1, by have := HL.out; omega, (range_snoc _).symm⟩, hJx3⟩⟩
    · have hkl : k = nch len := by unfold nch at hk ⊢; omega
      gi_wp2
      go_end0
      exact ⟨⟨_, rfl⟩, .inl ⟨_, hkl ▸ rfl, hJs⟩⟩
end Go.Proofs.Ytdklanenmihpdaa.Chunks
namespace Go.Proofs.Ytdklanenmihpdaa.Chunks
open Go.RowKit Go.Shelf
attribute [local go_sem] Oper.semAt_some
theorem nch_le {len : Nat} (h : len ≤ 1048576) : nch len ≤ 4096 := by unfold nch; omega
theorem chunk_stops (F : Fence) (n : Nat) (hf : F.fn 59) (hro : F.round = none) (hn : 1 ≤ n) (Bs Bn n₀ : Nat) (A : Option Addr) (len cap : Nat) (hA : 0 < len → A ≠ none) (hcap : len ≤ cap) (hmax : len ≤ 1048576) (hb1 : Bs < n₀) (hb2 : Bn < n₀)
    (w : World) (hn₀ : n₀ ≤ w.heap.size) (hBs : w.cell? ⟨Bs, 0, none⟩ = some (.slice A len cap)) (hBn : w.cell? ⟨Bn, 0, none⟩ = some (.int .i64 256)) :
    SeqStopsK F n Try.prog 59 #[.pointer (some ⟨Bs, 0, none⟩), .pointer (some ⟨Bn, 0, none⟩)] (fun k : Nat => #[ch A len k]) (Below n₀) (fun ys => ys = List.range (nch len)) (fun pre => ∃ k, k ≤ nch len ∧ pre = List.range k) (nch len) w := fun l J Jx W hW hJ _ hY h0 =>
  chunk1_in F n hf hro hn l Bs Bn n₀ A len cap hA hcap hmax hb1 hb2 J Jx hY W hJ ((hW.cell (p := ⟨Bs, 0, none⟩) (Nat.lt_of_lt_of_le hb1 hn₀)).trans hBs) ((hW.cell (p := ⟨Bn, 0, none⟩) (Nat.lt_of_lt_of_le hb2 hn₀)).trans hBn) h0
theorem info_bytes : (Try.prog.info? 23).map (fun i => (i.zero, i.size, i.bytes)) = some (some (.slice none 0 0), 1, 24) := by kernel_rfl
abbrev seqV (Bs Bn : Nat) : Value := .func (.func 59) #[] #[.pointer (some ⟨Bs, 0, none⟩), .pointer (some ⟨Bn, 0, none⟩)]
set_option maxRecDepth 100000 in
set_option maxHeartbeats 2000000 in
theorem appendSeq_in (F : Fence) (n : Nat) (hf : F.fn 58) (h1f : F.fn 59) (hro : F.round = none) (hn : 3 ≤ n) (Bs Bn : Nat) (A : Option Addr) (len cap : Nat) (hA : 0 < len → A ≠ none) (hcap : len ≤ cap) (hmax : len ≤ 1048576)
    (w : World) (hb1 : Bs < w.heap.size) (hb2 : Bn < w.heap.size) (hBs : w.cell? ⟨Bs, 0, none⟩ = some (.slice A len cap)) (hBn : w.cell? ⟨Bn, 0, none⟩ = some (.int .i64 256)) :
    CallsIn F n Try.prog 58 #[.slice none 0 0, seqV Bs Bn] w fun e W' => ∃ v, e = .returned v ∧ W'.ownsRow w.heap.size 23 1 v (nch len) ((List.range (nch len)).map (ch A len)) ∧ Below w.heap.size w W' := by
  have h1 : 1 ≤ n := by omega
  have hN := nch_le hmax
  obtain ⟨i0, hi, hz0, hz1, hz2⟩ := info_parts info_bytes
  refine callsIn_of_wp_marks Try.func58 rfl hf ?_ hro
  simp only [Try.ntmps58, List.size_toArray, List.length_cons, List.length_nil, Nat.reduceAdd, Nat.reduceSub, Array.replicate_succ, Array.replicate_zero, List.push_toArray, List.append_toArray, List.nil_append, List.cons_append]
  gi_wp2
  have bO := Boxed.new w 48 (.slice none 0 0)
  have hB0 : Below w.heap.size w (w.alloc (.cells #[.slice none 0 0] 48)) := (Below.refl _ w).alloc (Nat.le_refl _) _
  refine wpIn_rangeFunc_ownG hro h1 (gf := 59) (lb := #[.pointer (some ⟨Bs, 0, none⟩), .pointer (some ⟨Bn, 0, none⟩)]) rfl h1f (enters_of Try.func59 (by kernel_rfl) rfl)
    (chunk_stops F (n - 1) h1f hro (by omega) Bs Bn w.heap.size A len cap hA hcap hmax hb1 hb2 _ (by simp) ((hB0.cell (p := ⟨Bs, 0, none⟩) hb1).trans hBs) ((hB0.cell (p := ⟨Bn, 0, none⟩) hb2).trans hBn)) belowK_t (belowK_b (by simp)) (Below.refl _ _) (fun _ => rfl)
    (fun pre W => (∃ v, Boxed W w.heap.size 48 v ∧ W.ownsRow w.heap.size 23 1 v pre.length (pre.map (ch A len)) ∧ True) ∧ Below w.heap.size w W)
    (fun _ _ _ => False)
    (OwnFrom.and (Own.from (holdsRow_own w.heap.size w.heap.size 48 23 1 (fun pre : List Nat => pre.length) (fun pre => pre.map (ch A len)) (fun _ _ => True)) _) (ownFrom_below (Nat.le_refl _) (by simp)))
    (fun _ _ _ _ _ hs _ _ => hs)
    ⟨⟨_, bO, World.ownsRow_nil _ _ _ _, trivial⟩, hB0⟩
    (fun x => { tmps := #[.slice none 0 0, seqV Bs Bn, .pointer (some ⟨w.heap.size, 0, none⟩), undef, .slice none 0 0, .slice (chAt A x) (chLen len x) (chLen len x), seqV Bs Bn, .slice (chAt A x) (chLen len x) (chLen len x), undef, undef, undef, undef, undef], defers := [] }) ?assign ?body ?done ?stop
  case assign =>
    intro l x W K hK
    gi_wp2
    exact hK
  case body =>
    rintro l pre x W ⟨⟨v, hv, hrow, _⟩, hB⟩ hlt
    have hc := hv.cell
    gi_wp2_with (gi_at_builtin; refine wpListIn_append_own _ rfl _ _ 48 rfl w.heap.size 23 i0 (.slice none 0 0) 1 24 Try.underlying48 hi hz0 hz1 hz2 rfl (by decide) _ _ _ rfl (hrow.alloc _) ⟨W.heap.size, 0, none⟩ 1 1 [.slice (chAt A x) (chLen len x) (chLen len x)] rfl rfl (cell_one_new _ _ _) (by simp [Value.oneCell']) (by unfold maxLen; omega) (by omega) (by have := hB.size; simp; omega) ?_; intro v' w1 hown' hgrow _; obtain ⟨g', cap', rfl⟩ := ownsRow_succ hown'; obtain ⟨hv1, hv2, hr2, hk2, hb2⟩ := hv.appended (by decide) hrow hB.size (Nat.le_refl _) hown' hgrow; have hc1 := hv1.cell; have hf1 := hv1.frozen)
    exact ⟨hk2.from _, hb2, ⟨_, hv2, by simpa [ch] using hr2, trivial⟩, hB.trans hb2⟩
  case done =>
    rintro D ys W hD rfl ⟨⟨v, hv, hrow, _⟩, hB⟩ hK
    have hc := hv.cell
    gi_wp2
    refine ⟨by simp, .inl ⟨_, _, rfl, run_takeDeferred hK, ?_⟩⟩
    exact ⟨_, results_tmp rfl _ _ _, v, rfl, by simpa using ownsRow_putObj hrow _ hK rfl, hB.trans (belowK_b (w := w) (Nat.le_refl _) W D _ _ (by simp at hD; omega) hK rfl rfl)⟩
  case stop =>
    rintro D c pre W _ _ h _
    exact h.elim
set_option maxHeartbeats 1000000 in
theorem collect_in (F : Fence) (n : Nat) (hc : F.fn 46) (hf : F.fn 58) (h1f : F.fn 59) (hro : F.round = none) (hn : 4 ≤ n) (Bs Bn : Nat) (A : Option Addr) (len cap : Nat) (hA : 0 < len → A ≠ none) (hcap : len ≤ cap) (hmax : len ≤ 1048576)
    (w : World) (hb1 : Bs < w.heap.size) (hb2 : Bn < w.heap.size) (hBs : w.cell? ⟨Bs, 0, none⟩ = some (.slice A len cap)) (hBn : w.cell? ⟨Bn, 0, none⟩ = some (.int .i64 256)) :
    CallsIn F n Try.prog 46 #[seqV Bs Bn] w fun e W' => ∃ v, e = .returned v ∧ W'.ownsRow w.heap.size 23 1 v (nch len) ((List.range (nch len)).map (ch A len)) ∧ Below w.heap.size w W' := by
  have h1 : 1 ≤ n := by omega
  refine callsIn_of_wp Try.func46 rfl hc ?_ hro
  simp only [Try.ntmps46, List.size_toArray, List.length_cons, List.length_nil, Nat.reduceAdd, Nat.reduceSub, Array.replicate_succ, Array.replicate_zero, List.push_toArray, List.append_toArray, List.nil_append, List.cons_append]
  gi_wp2_with (gi_at_call 58; refine (appendSeq_in F (n - 1) hf h1f hro (by omega) Bs Bn A len cap hA hcap hmax w hb1 hb2 hBs hBn).mono ?_; rintro e w' ⟨v, rfl, hr, hb⟩)
  go_ret
  exact ⟨v, rfl, hr, hb⟩
theorem collect_calls (Bs Bn : Nat) (A : Option Addr) (len cap : Nat) (hA : 0 < len → A ≠ none) (hcap : len ≤ cap) (hmax : len ≤ 1048576)
    (w : World) (hb1 : Bs < w.heap.size) (hb2 : Bn < w.heap.size) (hBs : w.cell? ⟨Bs, 0, none⟩ = some (.slice A len cap)) (hBn : w.cell? ⟨Bn, 0, none⟩ = some (.int .i64 256)) :
    Calls Try.prog 46 #[seqV Bs Bn] w fun e W' => ∃ v, e = .returned v ∧ W'.ownsRow w.heap.size 23 1 v (nch len) ((List.range (nch len)).map (ch A len)) ∧ Below w.heap.size w W' :=
  callsIn_wide.1 (collect_in Fence.wide 4 trivial trivial trivial rfl (Nat.le_refl _) Bs Bn A len cap hA hcap hmax w hb1 hb2 hBs hBn)
set_option maxHeartbeats 1000000 in
theorem chunk_calls (A : Option Addr) (len cap : Nat) (w : World) :
    Calls Try.prog 47 #[.slice A len cap, .int .i64 256] w fun e W' => e = .returned (seqV w.heap.size (w.heap.size + 1)) ∧ W' = (w.alloc (.cells #[.slice A len cap] 23)).alloc (.cells #[.int .i64 256] 3) := by
  go_enter Try.func47, Try.ntmps47
  go_wp2
  go_ret
  exact ⟨rfl, rfl⟩
end Go.Proofs.Ytdklanenmihpdaa.Chunks
