/-
  A number up to a bound; bytes; what is left; copies.
-/
import Derived.Test.YtabljieejnhefaaWire4
import Derived.StillTailTactics
import Derived.Deep.RegionHeld3
namespace Go.Proofs.Ytabljieejnhefaa.Hand
open Go.RowKit Go.Proofs.YtabljieejnhefaaW.PrintWords Go.Proofs.YtabljieejnhefaaW.PrintLast

theorem info5 : (Try.prog.info? 5).map (fun i => (i.zero, i.size, i.bytes)) = some (some (.int .u8 0), 1, 1) := by kernel_rfl
/-- What upTo comes to. -/
def upL (l : List Int) (at_ most : Int) : Except Int (Int × Int) :=
  match numL l 10 0 0 at_ with
  | .ok (n, p) => if n > most then .error 1 else .ok (n, p)
  | .error x => .error x
set_option maxHeartbeats 1000000 in
theorem upTo_any {w : World} {F : Nat → Prop} {g : Nat} {l : List Int} {at_ e most : Int} (hI : IsRd w F g l at_ e) (h0 : 0 ≤ at_) (h1 : at_ ≤ l.length) :
    Calls Try.prog 36 #[.pointer (some ⟨g, 0, none⟩), .int .u64 most] w (NumPost F g l e w (Value.int .u64) (upL l at_ most)) := by
  obtain ⟨R, hR⟩ : ∃ R, numL l 10 0 0 at_ = R := ⟨_, rfl⟩
  obtain ⟨U, hU⟩ : ∃ U, upL l at_ most = U := ⟨_, rfl⟩
  rw [hU]
  have HU := Aside0.mk hU
  have hn := num_as hR hI h0 h1
  have HN := Aside0.mk hn
  clear hn hU
  go_enter Try.func36, Try.ntmps36
  go_wp2_with fail
  refine HN.out.mono ?_
  have HR := Aside0.mk hR
  clear hR HN
  cases R with
  | error x =>
    rintro en w1 ⟨rfl, hI1, hm1⟩
    have : U = .error x := by rw [← HU.out]; unfold upL; rw [HR.out]
    subst this
    exact ⟨rfl, rfl, hI1, hm1⟩
  | ok np =>
    obtain ⟨n, p⟩ := np
    rintro en w1 ⟨rfl, hI1, hp1, hp0, hm1⟩
    have HP := Aside0.mk (And.intro hI1 (And.intro hp1 (And.intro hp0 hm1)))
    have hI1' := Aside0.mk hI1
    clear hI1 hm1 hI
    by_cases hgt : most < n
    · have hu : U = .error 1 := by rw [← HU.out]; unfold upL; rw [HR.out]; exact if_pos hgt
      have Hu := Aside0.mk hu
      clear hu
      go_wp2
      refine ⟨rfl, ?_⟩
      rw [Hu.out]
      exact ⟨rfl, ⟨_, HP.out.1⟩, HP.out.2.2.2⟩
    · have hu : U = .ok (n, p) := by rw [← HU.out]; unfold upL; rw [HR.out]; exact if_neg hgt
      have Hu := Aside0.mk hu
      clear hu
      go_wp2
      go_ret
      rw [Hu.out]
      exact ⟨rfl, HP.out⟩
set_option maxHeartbeats 1000000 in
theorem left_any {w : World} {F : Nat → Prop} {g : Nat} {l : List Int} {at_ e : Int} (hI : IsRd w F g l at_ e) (h0 : 0 ≤ at_) (h1 : at_ ≤ l.length) :
    Calls Try.prog 29 #[.pointer (some ⟨g, 0, none⟩)] w fun en w' => en = .returned (.int .i64 (l.length - at_)) ∧ ∃ n, w' = w.drewN n := by
  have hlen := hI.len
  obtain ⟨A, c, i1, i2, i3, i4, i5⟩ := hI
  have c0 := blk_cell i2 0
  have c1 := blk_cell i2 1
  clear i1 i2 i4 i5
  go_enter Try.func29, Try.ntmps29
  go_wp2
  go_quiet (fail)
  go_wp2
  go_ret
  exact ⟨rfl, _, rfl⟩
set_option maxHeartbeats 1000000 in
theorem err_any {w : World} {F : Nat → Prop} {g : Nat} {l : List Int} {at_ e : Int} (hI : IsRd w F g l at_ e) :
    Calls Try.prog 23 #[.pointer (some ⟨g, 0, none⟩)] w fun en w' => en = .returned (.int .i64 e) ∧ ∃ n, w' = w.drewN n := by
  obtain ⟨A, c, i1, i2, i3, i4, i5⟩ := hI
  have c2 := blk_cell i2 2
  clear i1 i2 i4 i5
  go_enter Try.func23, Try.ntmps23
  go_wp2
  go_ret
  exact ⟨rfl, 0, rfl⟩
/-- A copy of bytes that were read. -/
def copyOf (l : List Int) (w : World) (en : Ending) (w' : World) : Prop := ∃ v, en = .returned v ∧ Kd.R (Kd.int .u8) 5 w' w.heap.size (fun _ => True) v l ∧ Below w.heap.size w w'
set_option maxHeartbeats 1000000 in
theorem clone_any {w : World} {A : Option Addr} {c : Nat} {l : List Int} (hC : Kd.C (Kd.int .u8) w A l.length l) (hc : l.length ≤ c) (hl : l.length < 140737488355328) :
    Calls Try.prog 34 #[.slice A l.length c] w (copyOf l w) := by
  have HC := Aside0.mk hC
  clear hC
  have HB := Aside0.mk (Below.refl w.heap.size w)
  cases A with
  | none =>
    obtain rfl : l = [] := by
      cases l with
      | nil => rfl
      | cons x l =>
        obtain ⟨ad, e, _⟩ := HC.out.2.2 (by simp)
        cases e
    have hq : ∀ w : World, (binOp .eql 23 (.slice none 0 c) (.slice none 0 0)).run Try.prog w = .ok (.bool true) w := fun w => Lib.run_eql_slice_nil w 23 5 none 0 c 0 0 Try.underlying23
    show Calls Try.prog 34 #[.slice none 0 c] w (copyOf [] w)
    go_enter Try.func34, Try.ntmps34
    go_wp2
    go_ret
    exact ⟨_, rfl, Kd.R_nil _ _ _ _ _, Below.refl _ _⟩
  | some ad =>
    have hq : ∀ w : World, (binOp .eql 23 (.slice (some ad) l.length c) (.slice none 0 0)).run Try.prog w = .ok (.bool false) w := fun w => Lib.run_eql_slice_nil w 23 5 (some ad) l.length c 0 0 Try.underlying23
    have HL := Aside0.mk hl
    clear hl
    go_enter Try.func34, Try.ntmps34
    go_wp2_with (first
      | ((with_reducible refine gate_dst (N := 5) rfl ?_); refine Kd.R_lit (Kd.int .u8) w.heap.size 5 ?hg (N := 5) ?hd (xs := ([] : List Int)) (inner := []) (ok := fun _ => True) (okp := fun _ => True) ?hr ?hp (fun _ hk => hk) trivial (Below.refl _ _) (Nat.le_refl _) (by simp) ?_; (case hd => rfl); (case hg => rfl); (case hr => first | (go_simp; done) | (go_simp; rfl)); (case hp => exact (Reps.none _ _)); intro v1 w1 ho hb hg_ hnew_; clear hg_ hnew_; have HO1 := Aside0.mk ho; have HB1 := Aside0.mk hb; clear ho hb HB)
      | ((with_reducible refine gate_builtin (b := .append) (xs := #[.tmp 5, .tmp 6]) rfl ?_); at_builtin; refine Kd.R_append_rows (Kd.int .u8) (w0 := w) w.heap.size rfl (.tmp 5) (.tmp 6) 23 5 (.int .u8 0) 1 rfl Try.underlying23 info5 rfl (by decide) (by omega) v1 [] l _ _ _ (fun _ => True) (fun _ => False) rfl rfl HO1.out (Kd.C_below HC.out HB1.out) (fun _ _ h => h) (fun _ h => h.elim) (fun _ _ => trivial) HB1.out HB1.out.size (by have := HL.out; simp; omega) ?_; intro v2 w2 ho hb hg hat; have HO2 := Aside0.mk ho; have HB2 := Aside0.mk hb; clear ho hb hg hat HO1 HB1))
    go_ret
    exact ⟨_, rfl, HO2.out, HB2.out⟩
/-- The value of bytes that were copied: what a caller may count on, from block b on. -/
def BytesV (l : List Int) (b : Nat) (w : World) (v : Value) : Prop := Kd.R (Kd.int .u8) 5 w b (fun _ => True) v l
theorem bytesV_stays (l : List Int) : Stays (BytesV l) where
  mu := fun {b w1 w2 v} h hm => by
    have h2 := Kd.R_bound h
    exact Kd.R_mono (Kd.R_move h2 (fun k hk => hm.block k hk.2.2.1 (by have := hk.2.1; omega))) (fun _ _ => trivial)
  lower := fun h hb => Kd.R_lower h hb
/-- Bytes read. -/
def rawL (l : List Int) (at_ n : Int) : Except Int Int := if n > l.length - at_ then .error 3 else .ok (at_ + n)
set_option maxHeartbeats 2000000 in
theorem raw_any {w : World} {F : Nat → Prop} {g : Nat} {l : List Int} {at_ e n : Int} (hI : IsRd w F g l at_ e) (h0 : 0 ≤ at_) (h1 : at_ ≤ l.length) (hn : 0 ≤ n) (hl : l.length < 140737488355328) (hF : ∀ k, F k → k < w.heap.size) :
    Calls Try.prog 39 #[.pointer (some ⟨g, 0, none⟩), .int .u64 n] w (RdPost (BytesV ((l.drop at_.toNat).take n.toNat)) w.heap.size F g l e w (rawL l at_ n)) := by
  have HI := Aside0.mk hI
  have HF := Aside0.mk hF
  clear hF
  by_cases hlt : n > l.length - at_
  · have hr : rawL l at_ n = .error 3 := if_pos hlt
    rw [hr]
    clear hr
    have hlt' : (l.length : Int) - at_ < n := hlt
    clear hlt
    have hw : IntKind.u64.wrap ((l.length : Int) - at_) = l.length - at_ := IntWalk.u64_in _ (by omega)
    go_enter Try.func39, Try.ntmps39
    go_wp2_with (first | (go_at_call 29; refine (left_any HI.out h0 h1).mono ?_; rintro en w' ⟨rfl, n', rfl⟩))
    exact ⟨rfl, rfl, ⟨_, HI.out.put ((Mu.refl _ _).drewN _) (fun v hv => hv)⟩, (Mu.refl _ _).drewN _⟩
  · have hr : rawL l at_ n = .ok (at_ + n) := if_neg hlt
    rw [hr]
    clear hr
    have hlt' : n ≤ (l.length : Int) - at_ := by omega
    clear hlt
    have hlen := hI.len
    have hw : IntKind.u64.wrap ((l.length : Int) - at_) = l.length - at_ := IntWalk.u64_in _ (by omega)
    have hw2 : IntKind.i64.wrap n = n := IntWalk.i64_in _ (by omega)
    obtain ⟨A, c, i1, i2, i3, i4, i5⟩ := hI
    have I2 := Aside0.mk i2
    have c0 := blk_cell i2 0
    have c1 := blk_cell i2 1
    have fz := blk_frozen i2 1
    have I4 := Aside0.mk i4
    have I5 := Aside0.mk i5
    clear i1 i2 i4 i5
    go_enter Try.func39, Try.ntmps39
    go_wp2_with (first | (go_at_call 29; refine (left_any HI.out h0 h1).mono ?_; rintro en w' ⟨rfl, n', rfl⟩))
    obtain ⟨W1, hW1⟩ : ∃ W1, (w.drewN n').setCell ⟨g, 1, none⟩ (.int .i64 (at_ + n)) = W1 := ⟨_, rfl⟩
    rw [hW1]
    have J2 : W1.heap[g]? = some (.cells #[.slice A l.length c, .int .i64 (at_ + n), .int .i64 e] 57 (0, 0)) := by rw [← hW1]; exact set_at I2.out
    have hm : Mu (· = g) w W1 := by rw [← hW1]; exact ((Mu.refl (· = g) w).drewN _).setCell (p := ⟨g, 1, none⟩) (fun _ => rfl) _
    have J4 := Aside0.mk (C_mu hm I4.out (fun ad ea hn => (I5.out ad ea hn).2))
    have HM := Aside0.mk hm
    have d0 := blk_cell J2 0
    have d1 := blk_cell J2 1
    have JJ := Aside0.mk J2
    clear hW1 c0 c1 fz J2 hm hw
    obtain ⟨i0, hi, _, hz1, _⟩ := info_parts info5
    obtain ⟨A', hA'⟩ : ∃ A', (if c = at_.toNat then A else A.map (·.add (at_.toNat * 1))) = A' := ⟨_, rfl⟩
    have hcut : ∀ W : World, (Instr.slice 23 (.slice A l.length c) (some (.int .i64 at_)) (some (.int .i64 (at_ + n))) none).run Try.prog W = .ok (.slice A' n.toNat (c - at_.toNat)) W := by
      intro W
      rw [cut_mid (P := Try.prog) 23 5 .i64 .i64 Try.underlying23 hi 1 hz1 A l.length c at_ (at_ + n) h0 (by omega) (by omega) i3 W, hA', show (at_ + n).toNat - at_.toNat = n.toNat by omega]
    obtain ⟨l', hl'⟩ : ∃ l', (l.drop at_.toNat).take n.toNat = l' := ⟨_, rfl⟩
    have hll : l'.length = n.toNat := by rw [← hl', List.length_take, List.length_drop]; omega
    have hC' : Kd.C (Kd.int .u8) W1 A' l'.length l' := by
      have := Kd.C_mid (lo := at_.toNat) (hi := (at_ + n).toNat) J4.out (by omega) (by omega) i3
      rw [List.drop_take, show (at_ + n).toNat - at_.toNat = n.toNat by omega, hl'] at this
      rw [← hA']
      exact this
    have hclone := clone_any (c := c - at_.toNat) (Kd.C_drew hC') (by have := i3; omega) (by omega)
    rw [hll] at hclone
    have HC := Aside0.mk hclone
    have HLL := Aside0.mk hl'
    clear hclone hC' hll hl' hA' hi hz1 i3
    have hw3 : IntKind.i64.wrap at_ = at_ := IntWalk.i64_in _ (by omega)
    go_still_tail 16, (by kernel_rfl)
    change wpList _ _ _ _ _ W1.drew
    go_wp2_with fail
    refine HC.out.mono ?_
    rintro en w2 ⟨v, rfl, hr, hb⟩
    go_wp2_with fail
    go_ret
    have h2 : Mu (· = g) w w2 := (HM.out.drew).trans (Mu.of_below hb _)
    refine ⟨⟨v, rfl, by rw [HLL.out]; exact Kd.R_lower hr HM.out.size⟩, ?_, by omega, by omega, h2⟩
    refine HI.out.put h2 (fun v2 hv => ?_)
    rw [I2.out] at hv
    obtain rfl : Value.slice A l.length c = v2 := by
      injection hv with hv
      injection hv with hv
      simpa using hv
    exact (Mu.of_below hb (fun _ => False)).heap (show W1.drew.heap[g]? = _ from JJ.out) (fun h => h)
end Go.Proofs.Ytabljieejnhefaa.Hand
