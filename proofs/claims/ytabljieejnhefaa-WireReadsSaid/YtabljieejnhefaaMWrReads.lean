/- WireReads: any bytes, any steps: what is read, and where it fails, is what the document's Reader reads: the call returns true and leaves its arguments as they were. No condition. -/
import Derived.Test.YtabljieejnhefaaMWra
import Derived.StillTailTactics
import Derived.Test.YtabljieejnhefaaProg
import Derived.Below
import Derived.Deep.Draws
import Derived.Deep.AppendLies
import Derived.Maps.AppendAt
import Derived.OwnWalk
import Derived.Laws.BytesArg
import Derived.Laws.MakeOwn
import Derived.Laws.OwnMore
import Derived.Deep.OwnRows
import Derived.Tactics
import Derived.Lib.ConvBytes
import Derived.Laws.Slices
import Derived.WalkKit
import Derived.KernelRfl
import Derived.RowKit3
import Derived.Deep.LoopGhost
import Derived.Deep.QuietTactic
import Derived.BigQuiet
import Derived.WideLaws
import Derived.Deep.DeepCutAuto
import Derived.Deep.CutBlock
import Derived.Deep.RegionHeld3
import Derived.Laws.Rows
import Derived.Lib.AppendStr
import Derived.ArgAppend
import Derived.Laws.IdiomCopy
import Derived.OrdersHeld
import Derived.Laws.BitsLemmas
import Derived.RowKit
import Derived.Test.YtabljieejnhefaaWWords
import Derived.Test.YtabljieejnhefaaWLast
import Derived.Test.YtabljieejnhefaaWTab
import Derived.Test.YtabljieejnhefaaWFour
import Derived.Test.YtabljieejnhefaaWQPut
import Derived.Test.YtabljieejnhefaaWApart
import Derived.Test.YtabljieejnhefaaWArr
import Derived.Test.YtabljieejnhefaaWZeros
import Derived.Test.YtabljieejnhefaaWFoot
import Derived.Test.YtabljieejnhefaaWKept
import Derived.Test.YtabljieejnhefaaWShare
import Derived.Test.YtabljieejnhefaaWN
import Derived.Test.YtabljieejnhefaaWFootNe
import Derived.Test.YtabljieejnhefaaWAt
import Derived.Test.YtabljieejnhefaaWEqStruct
import Derived.Test.YtabljieejnhefaaWRepsOne
import Derived.Test.YtabljieejnhefaaWInv
import Derived.Test.YtabljieejnhefaaWInvWords
import Derived.Test.YtabljieejnhefaaWGuard
import Derived.Test.YtabljieejnhefaaWNEv
import Derived.Test.YtabljieejnhefaaWMore
import Derived.Test.YtabljieejnhefaaRows
import Derived.ProofKit
import Derived.OpenShut
import Derived.ShutString
import Derived.ChangeOld
import Derived.SizedLaws
set_option linter.unusedVariables false
set_option linter.unusedSimpArgs false
/-
  The document's Reader: Num, Raw, Text, walked.
-/
namespace Go.Proofs.Ytabljieejnhefaa.Hand
open Go.RowKit Go.Proofs.YtabljieejnhefaaW.PrintWords Go.Proofs.YtabljieejnhefaaW.PrintLast Go.Proofs.YtabljieejnhefaaW.PrintMore Go.Proofs.Ytabljieejnhefaa.PA Go.Proofs.Ytabljieejnhefaa.PK
set_option linter.unusedSimpArgs false
set_option linter.unusedVariables false

theorem ref_open {w0 w : World} {g : Nat} {l : List Int} {p e : Int} (h : IsS46 w0 w g l p e) (hB : Below w0.heap.size w0 w) :
    ∃ A c, w.cell? ⟨g, 0, none⟩ = some (.slice A l.length c) ∧ w.cell? ⟨g, 1, none⟩ = some (.int .i64 p) ∧ w.cell? ⟨g, 2, none⟩ = some (.int .i64 e) ∧ w.frozen? ⟨g, 1, none⟩ = false ∧ w.frozen? ⟨g, 2, none⟩ = false ∧
      w.heap[g]? = some (.cells #[.slice A l.length c, .int .i64 p, .int .i64 e] 46 (0, 0)) ∧ Kd.C (Kd.int .u8) w0 A l.length l ∧ l.length ≤ c := by
  obtain ⟨A, c, hb, hg, hr, hc⟩ := h
  exact ⟨A, c, cellS46_0 hb, cellS46_1 hb, cellS46_2 hb, blk_frozen hb 1, blk_frozen hb 2, hb, hr, hc⟩
def tikref2_Reader_Num.f (k : Nat) (l : List Int) (p e m : Int) : Option (Int × Int × Int) :=
  if e = 0 then (tikref2_Get.f k l p).bind fun r => if r.2.2 = 0 then if r.1 > m then some (0, p, 1) else some (r.1, r.2.1, e) else some (0, p, r.2.2)
  else some (0, p, e)
theorem tikref2_Reader_Num.mono : ∀ l p e m k, LeO (tikref2_Reader_Num.f k l p e m) (tikref2_Reader_Num.f (k + 1) l p e m) := by
  intro l p e m k
  unfold tikref2_Reader_Num.f
  repeat' first
    | (with_reducible exact tikref2_Get.mono _ _ _)
    | (with_reducible exact LeO.refl _)
    | (with_reducible exact LeO.none _)
    | (with_reducible refine LeO.ite ?_ ?_)
    | (with_reducible refine LeO.bind ?_ (fun _ => ?_))
set_option maxHeartbeats 4000000 in
theorem tikref2_Reader_Num.calls (k : Nat) (g : Nat) (s0_0 : List Int) (s0_1 s0_2 a1 r1 r2 r3 : Int) (w0 w : World) (hI : IsS46 w0 w g s0_0 s0_1 s0_2) (hB : Below w0.heap.size w0 w) (h : tikref2_Reader_Num.f k s0_0 s0_1 s0_2 a1 = some (r1, r2, r3)) :
    Calls Try.prog 24 #[.pointer (some ⟨g, 0, none⟩), .int .u64 a1] w fun e w' => e = .returned (.int .u64 r1) ∧ IsS46 w0 w' g s0_0 r2 r3 ∧ Below w0.heap.size w0 w' ∧ KeepBut w w' g none := by
  obtain ⟨A, c, c0, c1, c2, f1, f2, hg, hr, hc⟩ := ref_open hI hB
  have HI := Aside0.mk hI
  have HB := Aside0.mk hB
  unfold tikref2_Reader_Num.f at h
  by_cases he : s0_2 = 0
  · rw [if_pos he] at h
    obtain ⟨⟨n, q, x⟩, hq, h'⟩ := Option.bind_eq_some_iff.mp h
    clear h
    have h := h'
    clear h'
    dsimp only at h
    have d0 : (s0_2 != 0) = false := by simp [he]
    have HE := Aside0.mk he
    have hget := fun (m : Nat) => Calls.quiet_of (n := m) (w := w) ((tikref2_Get.calls k A c s0_0 s0_1 n q x (w.drewN m) (by have := Kd.C_below hr hB; exact this) hc hq).mono fun _ _ z => by obtain ⟨z1, m1, z2⟩ := z; exact ⟨z1, m1, z2 ▸ rfl⟩)
    clear hI hB hg hr hc hq he
    go_enter Try.func24, Try.ntmps24
    go_wp2_with fail
    go_quiet ((go_at_call 11; exact hget _))
    clear hget
    by_cases h0 : x = 0
    · rw [if_pos h0] at h
      have d1 : (x == 0) = true := by simp [h0]
      have d2 : (x != 0) = false := by simp [h0]
      by_cases h1 : n > a1
      · rw [if_pos h1] at h
        obtain ⟨rfl, rfl, rfl⟩ : (0 : Int) = r1 ∧ s0_1 = r2 ∧ (1 : Int) = r3 := by simpa using Option.some.inj h
        have d3 : decide (a1 < n) = true := decide_eq_true h1
        clear h h0 h1
        go_wp2_with fail
        go_ret
        exact ⟨rfl, (HI.out.drewN _).set_2 1, below_set (pw_below_drewN HB.out _) HI.out.ge, (keep_drewN (KeepBut.refl w g none) _).set_ 2 _⟩
      · rw [if_neg h1] at h
        obtain ⟨rfl, rfl, rfl⟩ : n = r1 ∧ q = r2 ∧ s0_2 = r3 := by simpa using Option.some.inj h
        have d3 : decide (a1 < n) = false := decide_eq_false h1
        clear h h0 h1
        go_wp2_with fail
        go_ret
        exact ⟨rfl, (HI.out.drewN _).set_1 q, below_set (pw_below_drewN HB.out _) HI.out.ge, (keep_drewN (KeepBut.refl w g none) _).set_ 1 _⟩
    · rw [if_neg h0] at h
      obtain ⟨rfl, rfl, rfl⟩ : (0 : Int) = r1 ∧ s0_1 = r2 ∧ x = r3 := by simpa using Option.some.inj h
      have d1 : (x == 0) = false := by simp [h0]
      have d2 : (x != 0) = true := by simp [h0]
      clear h h0
      go_wp2_with fail
      go_ret
      exact ⟨rfl, (HI.out.drewN _).set_2 x, below_set (pw_below_drewN HB.out _) HI.out.ge, (keep_drewN (KeepBut.refl w g none) _).set_ 2 _⟩
  · rw [if_neg he] at h
    obtain ⟨rfl, rfl, rfl⟩ : (0 : Int) = r1 ∧ s0_1 = r2 ∧ s0_2 = r3 := by simpa using Option.some.inj h
    have d0 : (s0_2 != 0) = true := by simp [he]
    clear hI hB hg hr hc h he
    go_enter Try.func24, Try.ntmps24
    go_wp2_with fail
    go_ret
    exact ⟨rfl, HI.out, HB.out, KeepBut.refl w g none⟩
theorem copy_f (l : List Int) (h : l.length < 140737488355328) : tikref_CopyBytes.f l = some l := by
  unfold tikref_CopyBytes.f
  rw [Option.bind_some, if_pos (by simpa using h), List.nil_append]
/-- What the document's Raw comes to. -/
def tikref2_Reader_Raw.f (l : List Int) (p e n : Int) : Option (List Int × Int × Int) :=
  if e = 0 then if n < 0 then some ([], p, 1) else if 0 ≤ p ∧ p ≤ l.length ∧ l.length < 140737488355328 then if n > l.length - p then some ([], p, 3) else some ((l.drop p.toNat).take n.toNat, p + n, e) else none
  else some ([], p, e)
set_option maxHeartbeats 4000000 in
theorem tikref2_Reader_Raw.calls (g : Nat) (s0_0 : List Int) (s0_1 s0_2 a1 : Int) (r1 : List Int) (r2 r3 : Int) (w0 w : World) (hI : IsS46 w0 w g s0_0 s0_1 s0_2) (hB : Below w0.heap.size w0 w) (h : tikref2_Reader_Raw.f s0_0 s0_1 s0_2 a1 = some (r1, r2, r3)) :
    Calls Try.prog 26 #[.pointer (some ⟨g, 0, none⟩), .int .i64 a1] w fun e w' => ∃ v0_ : Value, e = .returned v0_ ∧ Kd.R (Kd.int .u8) 5 w' w.heap.size (fun _ => True) v0_ r1 ∧ IsS46 w0 w' g s0_0 r2 r3 ∧ Below w0.heap.size w0 w' ∧ KeepBut w w' g none := by
  obtain ⟨A, c, c0, c1, c2, f1, f2, hg, hr, hc⟩ := ref_open hI hB
  have HI := Aside0.mk hI
  have HB := Aside0.mk hB
  have HG := Aside0.mk hg
  unfold tikref2_Reader_Raw.f at h
  by_cases he : s0_2 = 0
  · rw [if_pos he] at h
    have d0 : (s0_2 != 0) = false := by simp [he]
    have HE := Aside0.mk he
    by_cases hn : a1 < 0
    · rw [if_pos hn] at h
      obtain ⟨rfl, rfl, rfl⟩ : ([] : List Int) = r1 ∧ s0_1 = r2 ∧ (1 : Int) = r3 := by simpa using Option.some.inj h
      have d1 : decide (a1 < 0) = true := decide_eq_true hn
      clear hI hB hg hr hc h he hn
      go_enter Try.func26, Try.ntmps26
      go_wp2_with fail
      go_ret
      exact ⟨_, rfl, Kd.R_nil _ _ _ _ _, HI.out.set_2 1, below_set HB.out HI.out.ge, (KeepBut.refl w g none).set_ 2 _⟩
    · rw [if_neg hn] at h
      have d1 : decide (a1 < 0) = false := decide_eq_false hn
      by_cases hp : 0 ≤ s0_1 ∧ s0_1 ≤ s0_0.length ∧ s0_0.length < 140737488355328
      case neg => rw [if_neg hp] at h; cases h
      obtain ⟨p0, p1, p2⟩ := hp
      rw [if_pos ⟨p0, p1, p2⟩] at h
      by_cases hm : a1 > s0_0.length - s0_1
      · rw [if_pos hm] at h
        obtain ⟨rfl, rfl, rfl⟩ : ([] : List Int) = r1 ∧ s0_1 = r2 ∧ (3 : Int) = r3 := by simpa using Option.some.inj h
        have d2 : decide ((s0_0.length : Int) - s0_1 < a1) = true := decide_eq_true hm
        clear hI hB hg hr hc h he hn hm
        go_enter Try.func26, Try.ntmps26
        go_wp2_with fail
        go_quiet (fail)
        go_wp2_with fail
        go_ret
        exact ⟨_, rfl, Kd.R_nil _ _ _ _ _, (HI.out.drewN _).set_2 3, below_set (pw_below_drewN HB.out _) HI.out.ge, (keep_drewN (KeepBut.refl w g none) _).set_ 2 _⟩
      · rw [if_neg hm] at h
        obtain ⟨l', hl'⟩ : ∃ l', (s0_0.drop s0_1.toNat).take a1.toNat = l' := ⟨_, rfl⟩
        rw [hl'] at h
        obtain ⟨rfl, rfl, rfl⟩ : l' = r1 ∧ s0_1 + a1 = r2 ∧ s0_2 = r3 := by simpa using Option.some.inj h
        have d2 : decide ((s0_0.length : Int) - s0_1 < a1) = false := decide_eq_false hm
        have hm' : a1 ≤ s0_0.length - s0_1 := by omega
        have hn' : 0 ≤ a1 := by omega
        have HR := Aside0.mk hr
        have HC := Aside0.mk hc
        have HL := Aside0.mk hl'
        clear hI hB hg hr hc h he hn hm hl'
        go_enter Try.func26, Try.ntmps26
        go_wp2_with fail
        go_quiet (fail)
        go_wp2_with fail
        obtain ⟨W1, hW1⟩ : ∃ W1, (w.drewN nq).setCell ⟨g, 1, none⟩ (.int .i64 (s0_1 + a1)) = W1 := ⟨_, rfl⟩
        rw [hW1]
        have hI1 : IsS46 w0 W1 g s0_0 (s0_1 + a1) s0_2 := by rw [← hW1]; exact (HI.out.drewN _).set_1 _
        have hB1 : Below w0.heap.size w0 W1 := by rw [← hW1]; exact below_set (pw_below_drewN HB.out _) HI.out.ge
        have hK1 : KeepBut w W1 g none := by rw [← hW1]; exact (keep_drewN (KeepBut.refl w g none) _).set_ 1 _
        have J2 : W1.heap[g]? = some (.cells #[.slice A s0_0.length c, .int .i64 (s0_1 + a1), .int .i64 s0_2] 46 (0, 0)) := by rw [← hW1]; exact set_at HG.out
        have HI1 := Aside0.mk hI1
        have HB1 := Aside0.mk hB1
        have HK1 := Aside0.mk hK1
        have e0 := blk_cell J2 0
        have e1 := blk_cell J2 1
        clear hW1 c0 c1 c2 f1 f2 hI1 hB1 hK1 J2
        obtain ⟨i0, hi, _, hz1, _⟩ := info_parts info5
        obtain ⟨A', hA'⟩ : ∃ A', (if c = s0_1.toNat then A else A.map (·.add (s0_1.toNat * 1))) = A' := ⟨_, rfl⟩
        have i3 := HC.out
        have hcut : ∀ W : World, (Instr.slice 23 (.slice A s0_0.length c) (some (.int .i64 s0_1)) (some (.int .i64 (s0_1 + a1))) none).run Try.prog W = .ok (.slice A' a1.toNat (c - s0_1.toNat)) W := by
          intro W
          rw [cut_mid (P := Try.prog) 23 5 .i64 .i64 Try.underlying23 hi 1 hz1 A s0_0.length c s0_1 (s0_1 + a1) p0 (by omega) (by omega) i3 W, hA', show (s0_1 + a1).toNat - s0_1.toNat = a1.toNat by omega]
        have hll : l'.length = a1.toNat := by rw [← HL.out, List.length_take, List.length_drop]; omega
        have hC' : Kd.C (Kd.int .u8) W1 A' l'.length l' := by
          have := Kd.C_mid (lo := s0_1.toNat) (hi := (s0_1 + a1).toNat) (Kd.C_below HR.out HB1.out) (by omega) (by omega) i3
          rw [List.drop_take, show (s0_1 + a1).toNat - s0_1.toNat = a1.toNat by omega, HL.out] at this
          rw [← hA']
          exact this
        have hcopy := tikref_CopyBytes.calls A' (c - s0_1.toNat) l' l' W1.drew (Kd.C_drew hC') (by have := i3; omega) (copy_f l' (by omega))
        rw [hll] at hcopy
        have HCP := Aside0.mk hcopy
        have hws : IntKind.i64.wrap s0_1 = s0_1 := IntWalk.i64_in _ (by omega)
        clear hcopy hC' hll hA' hi hz1 i3
        go_still_tail 15, (by kernel_rfl)
        change wpList _ _ _ _ _ W1.drew
        go_wp2_with fail
        refine HCP.out.mono ?_
        rintro en w2 ⟨v, rfl, hr, hb⟩
        have HR2 := Aside0.mk hr
        have HB2 := Aside0.mk hb
        clear hr hb e0 e1
        go_wp2_with fail
        go_ret
        exact ⟨v, rfl, Kd.R_lower HR2.out HK1.out.1, HI1.out.drew.below HB2.out, below_step (below_drew1 HB1.out) HB2.out, KeepBut.trans (keep_drew HK1.out) (KeepBut.of_below HB2.out g none) (.inl rfl)⟩
  · rw [if_neg he] at h
    obtain ⟨rfl, rfl, rfl⟩ : ([] : List Int) = r1 ∧ s0_1 = r2 ∧ s0_2 = r3 := by simpa using Option.some.inj h
    have d0 : (s0_2 != 0) = true := by simp [he]
    clear hI hB hg hr hc h he
    go_enter Try.func26, Try.ntmps26
    go_wp2_with fail
    go_ret
    exact ⟨_, rfl, Kd.R_nil _ _ _ _ _, HI.out, HB.out, KeepBut.refl w g none⟩
end Go.Proofs.Ytabljieejnhefaa.Hand
/-
  The document's Text, walked; the program's Raw and Text in the printed contracts' form.
-/
namespace Go.Proofs.Ytabljieejnhefaa.Hand
open Go.RowKit Go.Proofs.YtabljieejnhefaaW.PrintWords Go.Proofs.YtabljieejnhefaaW.PrintLast Go.Proofs.YtabljieejnhefaaW.PrintMore Go.Proofs.Ytabljieejnhefaa.PA Go.Proofs.Ytabljieejnhefaa.PK
set_option linter.unusedSimpArgs false
set_option linter.unusedVariables false

def tikref2_Reader_Text.f (k : Nat) (l : List Int) (p e m : Int) : Option (ByteArray × Int × Int) :=
  (tikref2_Reader_Num.f k l p e m).bind fun r =>
    if r.2.2 = 0 then
      if 0 ≤ r.1 ∧ r.1 < 18446744073709551616 ∧ 0 ≤ r.2.1 ∧ r.2.1 ≤ l.length ∧ l.length < 140737488355328 then
        if r.1 > l.length - r.2.1 then some (⟨#[]⟩, p, 3) else some (strOfNums ((l.drop r.2.1.toNat).take r.1.toNat), r.2.1 + r.1, 0)
      else none
    else some (⟨#[]⟩, r.2.1, r.2.2)
theorem tikref2_Reader_Text.mono : ∀ l p e m k, LeO (tikref2_Reader_Text.f k l p e m) (tikref2_Reader_Text.f (k + 1) l p e m) := by
  intro l p e m k
  unfold tikref2_Reader_Text.f
  repeat' first
    | (with_reducible exact tikref2_Reader_Num.mono _ _ _ _ _)
    | (with_reducible exact LeO.refl _)
    | (with_reducible exact LeO.none _)
    | (with_reducible refine LeO.ite ?_ ?_)
    | (with_reducible refine LeO.bind ?_ (fun _ => ?_))
theorem raw_bad (l : List Int) (p e n : Int) (he : e ≠ 0) : tikref2_Reader_Raw.f l p e n = some ([], p, e) := if_neg he
set_option maxHeartbeats 4000000 in
theorem tikref2_Reader_Text.calls (k : Nat) (g : Nat) (s0_0 : List Int) (s0_1 s0_2 a1 : Int) (r1 : ByteArray) (r2 r3 : Int) (w0 w : World) (hI : IsS46 w0 w g s0_0 s0_1 s0_2) (hB : Below w0.heap.size w0 w) (h : tikref2_Reader_Text.f k s0_0 s0_1 s0_2 a1 = some (r1, r2, r3)) :
    Calls Try.prog 28 #[.pointer (some ⟨g, 0, none⟩), .int .u64 a1] w fun e w' => e = .returned (.string r1) ∧ IsS46 w0 w' g s0_0 r2 r3 ∧ Below w0.heap.size w0 w' ∧ KeepBut w w' g none := by
  obtain ⟨A, c, c0, c1, c2, f1, f2, hg, hr, hc⟩ := ref_open hI hB
  have HI := Aside0.mk hI
  have HB := Aside0.mk hB
  unfold tikref2_Reader_Text.f at h
  obtain ⟨⟨n, q, x⟩, hq, h'⟩ := Option.bind_eq_some_iff.mp h
  clear h
  have h := h'
  clear h'
  dsimp only at h
  have HQ := Aside0.mk hq
  clear hI hB hg hr hc hq
  go_enter Try.func28, Try.ntmps28
  go_wp2_with fail
  refine (tikref2_Reader_Num.calls k g s0_0 s0_1 s0_2 a1 n q x w0 _ HI.out HB.out HQ.out).mono ?_
  rintro e1 w1 ⟨rfl, hI1, hB1, hK1⟩
  have HI1 := Aside0.mk hI1
  have HB1 := Aside0.mk hB1
  have HK1 := Aside0.mk hK1
  clear c0 c1 c2 f1 f2
  obtain ⟨A, c, c0, c1, c2, f1, f2, hg, hr, hc⟩ := ref_open hI1 hB1
  clear hI1 hB1 hK1 hg hr hc
  by_cases hx : x = 0
  · rw [if_pos hx] at h
    have d0 : (x == 0) = true := by simp [hx]
    by_cases hp : 0 ≤ n ∧ n < 18446744073709551616 ∧ 0 ≤ q ∧ q ≤ s0_0.length ∧ s0_0.length < 140737488355328
    case neg => rw [if_neg hp] at h; cases h
    rw [if_pos hp] at h
    obtain ⟨n0, n1, q0, q1, l1⟩ := hp
    have hw : IntKind.u64.wrap ((s0_0.length : Int) - q) = s0_0.length - q := IntWalk.u64_in _ (by omega)
    by_cases hm : n > s0_0.length - q
    · rw [if_pos hm] at h
      obtain ⟨rfl, rfl, rfl⟩ : (⟨#[]⟩ : ByteArray) = r1 ∧ s0_1 = r2 ∧ (3 : Int) = r3 := by simpa using Option.some.inj h
      have d1 : decide ((s0_0.length : Int) - q < n) = true := decide_eq_true hm
      clear h hx hm
      go_wp2_with fail
      go_quiet (fail)
      go_wp2_with fail
      clear c0 c1 c2 f1 f2
      have hI2 := ((HI1.out.drewN nq).set_2 3).set_1 s0_1
      have hB2 := below_set (j := 1) (v := .int .i64 s0_1) (below_set (j := 2) (v := .int .i64 3) (pw_below_drewN HB1.out nq) HI1.out.ge) HI1.out.ge
      have hK2 := ((keep_drewN HK1.out nq).set_ 2 (.int .i64 3)).set_ 1 (.int .i64 s0_1)
      refine (tikref2_Reader_Raw.calls g s0_0 s0_1 3 _ [] s0_1 3 w0 _ hI2 hB2 (raw_bad _ _ _ _ (by decide))).mono ?_
      rintro e2 w2 ⟨v, rfl, hv, hI3, hB3, hK3⟩
      obtain ⟨A', c', rfl, hc', hC⟩ := Kd.R_reads hv
      have hcv : (convert 23 9 (.slice A' 0 c')).run Try.prog w2 = .ok (.string ⟨#[]⟩) w2 := Kd.C_string (P := Try.prog) (A := A') (c := c') Try.underlying23 Try.underlying5 Try.underlying9 hC
      have HF := Aside0.mk (And.intro hI3 (And.intro hB3 (KeepBut.trans hK2 hK3 (.inl rfl))))
      clear hv hI2 hB2 hK2 hI3 hB3 hK3 hC
      go_wp2_with fail
      go_ret
      exact ⟨rfl, HF.out⟩
    · rw [if_neg hm] at h
      obtain ⟨l', hl'⟩ : ∃ l', (s0_0.drop q.toNat).take n.toNat = l' := ⟨_, rfl⟩
      rw [hl'] at h
      obtain ⟨rfl, rfl, rfl⟩ : strOfNums l' = r1 ∧ q + n = r2 ∧ (0 : Int) = r3 := by simpa using Option.some.inj h
      have d1 : decide ((s0_0.length : Int) - q < n) = false := decide_eq_false hm
      have hraw : tikref2_Reader_Raw.f s0_0 q x n = some (l', q + n, x) := by
        unfold tikref2_Reader_Raw.f
        rw [if_pos hx, if_neg (by omega), if_pos ⟨q0, q1, l1⟩, if_neg (by omega), hl']
      have hwn : IntKind.i64.wrap n = n := IntWalk.i64_in _ (by omega)
      have HR := Aside0.mk hraw
      have HX := Aside0.mk hx
      have HN := Aside0.mk hwn
      clear h hm hl' hraw hx hwn
      go_wp2_with fail
      go_quiet (fail)
      have hwn := HN.out
      go_wp2_with fail
      clear c0 c1 c2 f1 f2
      refine (tikref2_Reader_Raw.calls g s0_0 q x n l' (q + n) x w0 _ (HI1.out.drewN nq) (pw_below_drewN HB1.out nq) HR.out).mono ?_
      rintro e2 w2 ⟨v, rfl, hv, hI3, hB3, hK3⟩
      obtain ⟨A', c', rfl, hc', hC⟩ := Kd.R_reads hv
      have hcv := Kd.C_string (P := Try.prog) (A := A') (c := c') Try.underlying23 Try.underlying5 Try.underlying9 hC
      rw [HX.out] at hI3
      have HF := Aside0.mk (And.intro hI3 (And.intro hB3 (KeepBut.trans (keep_drewN HK1.out nq) hK3 (.inl rfl))))
      clear hv hI3 hB3 hK3 hC
      go_wp2_with fail
      go_ret
      exact ⟨rfl, HF.out⟩
  · rw [if_neg hx] at h
    have d0 : (x == 0) = false := by simp [hx]
    obtain ⟨rfl, rfl, rfl⟩ : (⟨#[]⟩ : ByteArray) = r1 ∧ q = r2 ∧ x = r3 := by simpa using Option.some.inj h
    have HX := Aside0.mk hx
    clear h hx
    go_wp2_with fail
    go_quiet (fail)
    go_wp2_with fail
    clear c0 c1 c2 f1 f2
    refine (tikref2_Reader_Raw.calls g s0_0 q x _ [] q x w0 _ (HI1.out.drewN nq) (pw_below_drewN HB1.out nq) (raw_bad _ _ _ _ HX.out)).mono ?_
    rintro e2 w2 ⟨v, rfl, hv, hI3, hB3, hK3⟩
    obtain ⟨A', c', rfl, hc', hC⟩ := Kd.R_reads hv
    have hcv : (convert 23 9 (.slice A' 0 c')).run Try.prog w2 = .ok (.string ⟨#[]⟩) w2 := Kd.C_string (P := Try.prog) (A := A') (c := c') Try.underlying23 Try.underlying5 Try.underlying9 hC
    have HF := Aside0.mk (And.intro hI3 (And.intro hB3 (KeepBut.trans (keep_drewN HK1.out nq) hK3 (.inl rfl))))
    clear hv hI3 hB3 hK3 hC
    go_wp2_with fail
    go_ret
    exact ⟨rfl, HF.out⟩
/-! the program's -/
def wire_Reader_Raw.f (s0 : List Int) (s1 s2 a1 : Int) : Option (List Int × Int × Int) := if a1 ≤ 9223372036854775807 then some (rdRaw s0 s1 s2 a1) else none
theorem wire_Reader_Raw.calls (g : Nat) (s0_0 : List Int) (s0_1 s0_2 a1 : Int) (r1 : List Int) (r2 r3 : Int) (w0 w : World) (hI : IsS57 w0 w g s0_0 s0_1 s0_2) (hB : Below w0.heap.size w0 w) (h : wire_Reader_Raw.f s0_0 s0_1 s0_2 a1 = some (r1, r2, r3)) :
    Calls Try.prog 25 #[.pointer (some ⟨g, 0, none⟩), .int .i64 a1] w fun e w' => ∃ v0_ : Value, e = .returned v0_ ∧ Kd.R (Kd.int .u8) 5 w' w.heap.size (fun _ => True) v0_ r1 ∧ IsS57 w0 w' g s0_0 r2 r3 ∧ Below w0.heap.size w0 w' ∧ KeepBut w w' g none := by
  unfold wire_Reader_Raw.f at h
  split at h
  case isFalse => cases h
  rename_i hb
  have hh : rdRaw s0_0 s0_1 s0_2 a1 = (r1, r2, r3) := Option.some.inj h
  obtain ⟨F, a, b, c0, c1, c2⟩ := hI
  refine (Raw_any a (fun k hk => (b k hk).2) c0 c1 c2 hb).mono ?_
  rintro en w' ⟨⟨v, rfl, hv⟩, i, p0, p1, mu⟩
  rw [hh] at hv i p0 p1
  refine ⟨v, rfl, hv, ⟨F, i, fun k hk => ⟨(b k hk).1, Nat.lt_of_lt_of_le (b k hk).2 mu.size⟩, p0, p1, c2⟩, Mu.below_of hB mu (fun k hk e => ?_), keep_mu mu⟩
  subst e
  exact Nat.not_le.2 hk (b k a.own).1
def wire_Reader_Text.f (s0 : List Int) (s1 s2 a1 : Int) : Option (ByteArray × Int × Int) := if a1 ≤ 9223372036854775807 then some (rdText s0 s1 s2 a1) else none
theorem wire_Reader_Text.calls (g : Nat) (s0_0 : List Int) (s0_1 s0_2 a1 : Int) (r1 : ByteArray) (r2 r3 : Int) (w0 w : World) (hI : IsS57 w0 w g s0_0 s0_1 s0_2) (hB : Below w0.heap.size w0 w) (h : wire_Reader_Text.f s0_0 s0_1 s0_2 a1 = some (r1, r2, r3)) :
    Calls Try.prog 27 #[.pointer (some ⟨g, 0, none⟩), .int .i64 a1] w fun e w' => e = .returned (.string r1) ∧ IsS57 w0 w' g s0_0 r2 r3 ∧ Below w0.heap.size w0 w' ∧ KeepBut w w' g none := by
  unfold wire_Reader_Text.f at h
  split at h
  case isFalse => cases h
  rename_i hb
  have hh : rdText s0_0 s0_1 s0_2 a1 = (r1, r2, r3) := Option.some.inj h
  obtain ⟨F, a, b, c0, c1, c2⟩ := hI
  refine (Text_any a (fun k hk => (b k hk).2) c0 c1 c2 hb).mono ?_
  rintro en w' ⟨rfl, i, p0, p1, mu⟩
  rw [hh] at i p0 p1 ⊢
  refine ⟨rfl, ⟨F, i, fun k hk => ⟨(b k hk).1, Nat.lt_of_lt_of_le (b k hk).2 mu.size⟩, p0, p1, c2⟩, Mu.below_of hB mu (fun k hk e => ?_), keep_mu mu⟩
  subst e
  exact Nat.not_le.2 hk (b k a.own).1
/-- (The same as wire_NewReader, and that its block is new.) -/
def newReader.f (l0 : List Int) : Option (List Int × Int × Int) := wire_NewReader.f l0
theorem newReader.calls (A0 : Option Addr) (c0 : Nat) (l0 : List Int) (r1 : List Int) (r2 : Int) (r3 : Int) (w0 w : World) (hB : Below w0.heap.size w0 w) (hr0 : Kd.C (Kd.int .u8) w A0 l0.length l0) (hc0 : l0.length ≤ c0) (h : newReader.f l0 = some (r1, r2, r3)) :
    Calls Try.prog 20 #[.slice A0 l0.length c0] w fun e w' => ∃ g, e = .returned (.pointer (some ⟨g, 0, none⟩)) ∧ IsS57 w0 w' g r1 r2 r3 ∧ Below w0.heap.size w0 w' ∧ Below w.heap.size w w' ∧ w.heap.size ≤ g :=
  (wire_NewReader.calls A0 c0 l0 r1 r2 r3 w w (Below.refl _ _) hr0 hc0 h).mono fun _ _ ⟨g, h1, h2, h3, h4⟩ => ⟨g, h1, (by
    obtain ⟨F, a, b, c⟩ := h2
    exact ⟨F, a, fun k hk => ⟨Nat.le_trans hB.size (b k hk).1, (b k hk).2⟩, c⟩), below_step hB h4, h4, h2.ge⟩
theorem cellOf46_1 {w0 W : World} {g : Nat} {l : List Int} {p e : Int} (h : IsS46 w0 W g l p e) : W.cell? ⟨g, 1, none⟩ = some (.int .i64 p) := by
  obtain ⟨A, c, hb, _⟩ := h
  exact cellS46_1 hb
theorem cellOf46_2 {w0 W : World} {g : Nat} {l : List Int} {p e : Int} (h : IsS46 w0 W g l p e) : W.cell? ⟨g, 2, none⟩ = some (.int .i64 e) := by
  obtain ⟨A, c, hb, _⟩ := h
  exact cellS46_2 hb
def kLeft.f (s0 : List Int) (s1 s2 : Int) : Option Int := (wire_Reader_Left.f s0 s1 s2).bind fun b => if b.2 = (s1, s2) then some b.1 else none
theorem kLeft.calls (g : Nat) (s0_0 : List Int) (s0_1 s0_2 r1 : Int) (w0 w : World) (hI : IsS57 w0 w g s0_0 s0_1 s0_2) (hB : Below w0.heap.size w0 w) (h : kLeft.f s0_0 s0_1 s0_2 = some r1) :
    Calls Try.prog 29 #[.pointer (some ⟨g, 0, none⟩)] w fun e w' => e = .returned (.int .i64 r1) ∧ IsS57 w0 w' g s0_0 s0_1 s0_2 ∧ Below w0.heap.size w0 w' ∧ KeepBut w w' g none := by
  unfold kLeft.f at h
  obtain ⟨⟨q1, q2, q3⟩, hb, h2⟩ := Option.bind_eq_some_iff.mp h
  by_cases hc : (q2, q3) = (s0_1, s0_2)
  · have hh := (if_pos hc).symm.trans h2
    obtain ⟨rfl, rfl⟩ : q2 = s0_1 ∧ q3 = s0_2 := by simpa using hc
    obtain rfl : q1 = r1 := Option.some.inj hh
    exact wire_Reader_Left.calls g s0_0 q2 q3 q1 q2 q3 w0 w hI hB hb
  · have hh := (if_neg hc).symm.trans h2
    cases hh
def kErr.f (s0 : List Int) (s1 s2 : Int) : Option Int := (wire_Reader_Err.f s0 s1 s2).bind fun b => if b.2 = (s1, s2) then some b.1 else none
theorem kErr.calls (g : Nat) (s0_0 : List Int) (s0_1 s0_2 r1 : Int) (w0 w : World) (hI : IsS57 w0 w g s0_0 s0_1 s0_2) (hB : Below w0.heap.size w0 w) (h : kErr.f s0_0 s0_1 s0_2 = some r1) :
    Calls Try.prog 23 #[.pointer (some ⟨g, 0, none⟩)] w fun e w' => e = .returned (.int .i64 r1) ∧ IsS57 w0 w' g s0_0 s0_1 s0_2 ∧ Below w0.heap.size w0 w' ∧ KeepBut w w' g none := by
  unfold kErr.f at h
  obtain ⟨⟨q1, q2, q3⟩, hb, h2⟩ := Option.bind_eq_some_iff.mp h
  by_cases hc : (q2, q3) = (s0_1, s0_2)
  · have hh := (if_pos hc).symm.trans h2
    obtain ⟨rfl, rfl⟩ : q2 = s0_1 ∧ q3 = s0_2 := by simpa using hc
    obtain rfl : q1 = r1 := Option.some.inj hh
    exact wire_Reader_Err.calls g s0_0 q2 q3 q1 q2 q3 w0 w hI hB hb
  · have hh := (if_neg hc).symm.trans h2
    cases hh
def kEnd.f (s0 : List Int) (s1 s2 : Int) : Option Int := (wire_Reader_End.f s0 s1 s2).bind fun b => if b.2 = (s1, s2) then some b.1 else none
theorem kEnd.calls (g : Nat) (s0_0 : List Int) (s0_1 s0_2 r1 : Int) (w0 w : World) (hI : IsS57 w0 w g s0_0 s0_1 s0_2) (hB : Below w0.heap.size w0 w) (h : kEnd.f s0_0 s0_1 s0_2 = some r1) :
    Calls Try.prog 22 #[.pointer (some ⟨g, 0, none⟩)] w fun e w' => e = .returned (.int .i64 r1) ∧ IsS57 w0 w' g s0_0 s0_1 s0_2 ∧ Below w0.heap.size w0 w' ∧ KeepBut w w' g none := by
  unfold kEnd.f at h
  obtain ⟨⟨q1, q2, q3⟩, hb, h2⟩ := Option.bind_eq_some_iff.mp h
  by_cases hc : (q2, q3) = (s0_1, s0_2)
  · have hh := (if_pos hc).symm.trans h2
    obtain ⟨rfl, rfl⟩ : q2 = s0_1 ∧ q3 = s0_2 := by simpa using hc
    obtain rfl : q1 = r1 := Option.some.inj hh
    exact wire_Reader_End.calls g s0_0 q2 q3 q1 q2 q3 w0 w hI hB hb
  · have hh := (if_neg hc).symm.trans h2
    cases hh
def rLeft.f (s0 : List Int) (s1 s2 : Int) : Option Int := (tikref2_Reader_Left.f s0 s1 s2).bind fun b => if b.2 = (s1, s2) then some b.1 else none
theorem rLeft.calls (g : Nat) (s0_0 : List Int) (s0_1 s0_2 r1 : Int) (w0 w : World) (hI : IsS46 w0 w g s0_0 s0_1 s0_2) (hB : Below w0.heap.size w0 w) (h : rLeft.f s0_0 s0_1 s0_2 = some r1) :
    Calls Try.prog 30 #[.pointer (some ⟨g, 0, none⟩)] w fun e w' => e = .returned (.int .i64 r1) ∧ IsS46 w0 w' g s0_0 s0_1 s0_2 ∧ Below w0.heap.size w0 w' ∧ KeepBut w w' g none := by
  unfold rLeft.f at h
  obtain ⟨⟨q1, q2, q3⟩, hb, h2⟩ := Option.bind_eq_some_iff.mp h
  by_cases hc : (q2, q3) = (s0_1, s0_2)
  · have hh := (if_pos hc).symm.trans h2
    obtain ⟨rfl, rfl⟩ : q2 = s0_1 ∧ q3 = s0_2 := by simpa using hc
    obtain rfl : q1 = r1 := Option.some.inj hh
    exact tikref2_Reader_Left.calls g s0_0 q2 q3 q1 q2 q3 w0 w hI hB hb
  · have hh := (if_neg hc).symm.trans h2
    cases hh
def rEnd.f (s0 : List Int) (s1 s2 : Int) : Option Int := (tikref2_Reader_End.f s0 s1 s2).bind fun b => if b.2 = (s1, s2) then some b.1 else none
theorem rEnd.calls (g : Nat) (s0_0 : List Int) (s0_1 s0_2 r1 : Int) (w0 w : World) (hI : IsS46 w0 w g s0_0 s0_1 s0_2) (hB : Below w0.heap.size w0 w) (h : rEnd.f s0_0 s0_1 s0_2 = some r1) :
    Calls Try.prog 31 #[.pointer (some ⟨g, 0, none⟩)] w fun e w' => e = .returned (.int .i64 r1) ∧ IsS46 w0 w' g s0_0 s0_1 s0_2 ∧ Below w0.heap.size w0 w' ∧ KeepBut w w' g none := by
  unfold rEnd.f at h
  obtain ⟨⟨q1, q2, q3⟩, hb, h2⟩ := Option.bind_eq_some_iff.mp h
  by_cases hc : (q2, q3) = (s0_1, s0_2)
  · have hh := (if_pos hc).symm.trans h2
    obtain ⟨rfl, rfl⟩ : q2 = s0_1 ∧ q3 = s0_2 := by simpa using hc
    obtain rfl : q1 = r1 := Option.some.inj hh
    exact tikref2_Reader_End.calls g s0_0 q2 q3 q1 q2 q3 w0 w hI hB hb
  · have hh := (if_neg hc).symm.trans h2
    cases hh
end Go.Proofs.Ytabljieejnhefaa.Hand
/-
  WireReads: what a call on the document's Reader keeps of the program's. (Printed by gen14.py.)
-/
namespace Go.Proofs.Ytabljieejnhefaa.Hand
open Go.RowKit Go.Proofs.YtabljieejnhefaaW.PrintWords Go.Proofs.YtabljieejnhefaaW.PrintLast Go.Proofs.YtabljieejnhefaaW.PrintMore Go.Proofs.Ytabljieejnhefaa.PA Go.Proofs.Ytabljieejnhefaa.PK
set_option linter.unusedSimpArgs false
set_option linter.unusedVariables false

theorem IsS57.lt {w0 W : World} {g : Nat} {l : List Int} {p e : Int} (h : IsS57 w0 W g l p e) : g < W.heap.size := by
  obtain ⟨F, a, b, c⟩ := h
  exact (b g a.own).2
/-- All but the block is kept, and it is a Reader of the document. -/
structure KeepR (w w' : World) (g : Nat) : Prop where
  all : KeepBut w w' g none
  ref : ∃ A n c p e, w.heap[g]? = some (.cells #[.slice A n c, .int .i64 p, .int .i64 e] 46 (0, 0))
theorem KeepR.of {w0 w w' : World} {g : Nat} {l : List Int} {p e : Int} (h : IsS46 w0 w g l p e) (k : KeepBut w w' g none) : KeepR w w' g := by
  obtain ⟨A, c, hb, _⟩ := h
  exact ⟨k, A, _, c, p, e, hb⟩
theorem no_byte {W : World} {g2 n c : Nat} {A : Option Addr} {p e : Int} {ad : Addr} {x : Int} (hr : W.heap[g2]? = some (.cells #[.slice A n c, .int .i64 p, .int .i64 e] 46 (0, 0))) (hc : W.cell? ad = some (.int .u8 x)) : ad.block ≠ g2 := by
  rintro rfl
  obtain ⟨b, o, el⟩ := ad
  cases el with
  | none =>
    have := blk_cell hr o
    rw [show W.cell? ⟨b, o, none⟩ = some (.int .u8 x) from hc] at this
    match o, this with
    | 0, h => cases h
    | 1, h => cases h
    | 2, h => cases h
    | o + 3, h => simp at h
  | some z =>
    simp [World.cell?, hr] at hc
theorem keepRd {w0 W W1 : World} {g g2 : Nat} {l : List Int} {p e : Int} (h : IsS57 w0 W g l p e) (hk : KeepR W W1 g2) (hne : g ≠ g2) : IsS57 w0 W1 g l p e := by
  obtain ⟨F, ⟨A, c, h1, h2, h3, h4, h5⟩, b, c1⟩ := h
  obtain ⟨A2, n2, c2, p2, e2, hr⟩ := hk.ref
  have nb : ∀ ad, A = some ad → 0 < l.length → ad.block ≠ g2 := by
    intro ad ea hl
    subst ea
    obtain ⟨ad', ee, hx⟩ := Kd.at_int h4 0 (Int.le_refl _) (by omega)
    obtain rfl : ad = ad' := Option.some.inj ee
    have := no_byte hr hx
    rwa [add_block] at this
  have kp : ∀ i o, W.heap[i]? = some o → i ≠ g2 → W1.heap[i]? = some o := fun i o hi hg => (hk.all.2 i (blk_lt hi) hg (by simp)).trans hi
  refine ⟨fun k => k = g ∨ ∃ ad, A = some ad ∧ 0 < l.length ∧ k = ad.block, ⟨A, c, .inl rfl, kp _ _ h2 hne, h3, ?_, fun ad ea hl => ⟨.inr ⟨ad, ea, hl, rfl⟩, (h5 ad ea hl).2⟩⟩, ?_, c1⟩
  · obtain ⟨z1, z2, z3⟩ := h4
    refine ⟨z1, z2, fun hn => ?_⟩
    obtain ⟨ad, ea, hc⟩ := z3 hn
    refine ⟨ad, ea, fun j q hj => ?_⟩
    obtain ⟨cs, k1, k2, k3⟩ := hc j q hj
    refine ⟨cs, k1, k2, fun i u hu => ?_⟩
    have hx := k3 i u hu
    have hb : (ad.add (j * (Kd.int .u8).sz + i)).block = ad.block := add_block _ _
    have hlt := World.block_lt_of_cell? _ _ hx
    rw [World.cell?_of_block (w := W)]
    · exact hx
    · rw [hb] at hlt ⊢
      exact hk.all.2 _ hlt (nb ad ea hn) (by simp)
  · rintro k (rfl | ⟨ad, ea, hl, rfl⟩)
    · exact ⟨(b k h1).1, Nat.lt_of_lt_of_le (b k h1).2 hk.all.1⟩
    · have := b _ (h5 ad ea hl).1
      exact ⟨this.1, Nat.lt_of_lt_of_le this.2 hk.all.1⟩
def refReader.f (l : List Int) : Option (List Int × Int × Int) := some (l, 0, 0)
theorem refReader_is {w W W1 : World} {A : Option Addr} {c g : Nat} {l t1 : List Int} {t2 t3 : Int} (hB : Below w.heap.size w W) (hr : Kd.C (Kd.int .u8) w A l.length l) (hc : l.length ≤ c)
    (hb : W1.heap[g]? = some (.cells #[.slice A l.length c, .int .i64 0, .int .i64 0] 46 (0, 0))) (hn : W.heap.size ≤ g) (h : refReader.f l = some (t1, t2, t3)) : IsS46 w W1 g t1 t2 t3 := by
  unfold refReader.f at h
  obtain ⟨rfl, rfl, rfl⟩ : l = t1 ∧ (0 : Int) = t2 ∧ (0 : Int) = t3 := by simpa using Option.some.inj h
  exact ⟨A, c, hb, Nat.le_trans hB.size hn, hr, hc⟩
def xNum.f (k : Nat) (s0 : List Int) (s1 s2 : Int) (a1 : Int) : Option (Int × Int × Int) := tikref2_Reader_Num.f k s0 s1 s2 a1
theorem xNum.mono : ∀ s0 s1 s2 a1 k, LeO (xNum.f k s0 s1 s2 a1) (xNum.f (k + 1) s0 s1 s2 a1) := tikref2_Reader_Num.mono
theorem xNum.calls (k : Nat) (g : Nat) (s0 : List Int) (s1 s2 : Int) (a1 : Int) (r1 : Int) (r2 r3 : Int) (w0 w : World) (hI : IsS46 w0 w g s0 s1 s2) (hB : Below w0.heap.size w0 w) (h : xNum.f k s0 s1 s2 a1 = some (r1, r2, r3)) :
    Calls Try.prog 24 #[.pointer (some ⟨g, 0, none⟩), .int .u64 a1] w fun e w' => e = .returned (.int .u64 r1) ∧ IsS46 w0 w' g s0 r2 r3 ∧ Below w0.heap.size w0 w' ∧ KeepR w w' g :=
  (tikref2_Reader_Num.calls k g s0 s1 s2 a1 r1 r2 r3 w0 w hI hB h).mono fun _ _ ⟨h1, h2, h3, h4⟩ => ⟨h1, h2, h3, KeepR.of hI h4⟩
def xRaw.f (s0 : List Int) (s1 s2 : Int) (a1 : Int) : Option (List Int × Int × Int) := tikref2_Reader_Raw.f s0 s1 s2 a1
theorem xRaw.calls (g : Nat) (s0 : List Int) (s1 s2 : Int) (a1 : Int) (r1 : List Int) (r2 r3 : Int) (w0 w : World) (hI : IsS46 w0 w g s0 s1 s2) (hB : Below w0.heap.size w0 w) (h : xRaw.f s0 s1 s2 a1 = some (r1, r2, r3)) :
    Calls Try.prog 26 #[.pointer (some ⟨g, 0, none⟩), .int .i64 a1] w fun e w' => ∃ v0_ : Value, e = .returned v0_ ∧ Kd.R (Kd.int .u8) 5 w' w.heap.size (fun _ => True) v0_ r1 ∧ IsS46 w0 w' g s0 r2 r3 ∧ Below w0.heap.size w0 w' ∧ KeepR w w' g :=
  (tikref2_Reader_Raw.calls g s0 s1 s2 a1 r1 r2 r3 w0 w hI hB h).mono fun _ _ ⟨v, h1, hv, h2, h3, h4⟩ => ⟨v, h1, hv, h2, h3, KeepR.of hI h4⟩
def xText.f (k : Nat) (s0 : List Int) (s1 s2 : Int) (a1 : Int) : Option (ByteArray × Int × Int) := tikref2_Reader_Text.f k s0 s1 s2 a1
theorem xText.mono : ∀ s0 s1 s2 a1 k, LeO (xText.f k s0 s1 s2 a1) (xText.f (k + 1) s0 s1 s2 a1) := tikref2_Reader_Text.mono
theorem xText.calls (k : Nat) (g : Nat) (s0 : List Int) (s1 s2 : Int) (a1 : Int) (r1 : ByteArray) (r2 r3 : Int) (w0 w : World) (hI : IsS46 w0 w g s0 s1 s2) (hB : Below w0.heap.size w0 w) (h : xText.f k s0 s1 s2 a1 = some (r1, r2, r3)) :
    Calls Try.prog 28 #[.pointer (some ⟨g, 0, none⟩), .int .u64 a1] w fun e w' => e = .returned (.string r1) ∧ IsS46 w0 w' g s0 r2 r3 ∧ Below w0.heap.size w0 w' ∧ KeepR w w' g :=
  (tikref2_Reader_Text.calls k g s0 s1 s2 a1 r1 r2 r3 w0 w hI hB h).mono fun _ _ ⟨h1, h2, h3, h4⟩ => ⟨h1, h2, h3, KeepR.of hI h4⟩
def xLeft.f (s0 : List Int) (s1 s2 : Int) : Option (Int) := rLeft.f s0 s1 s2
theorem xLeft.calls (g : Nat) (s0 : List Int) (s1 s2 : Int) (r1 : Int) (w0 w : World) (hI : IsS46 w0 w g s0 s1 s2) (hB : Below w0.heap.size w0 w) (h : xLeft.f s0 s1 s2 = some r1) :
    Calls Try.prog 30 #[.pointer (some ⟨g, 0, none⟩)] w fun e w' => e = .returned (.int .i64 r1) ∧ IsS46 w0 w' g s0 s1 s2 ∧ Below w0.heap.size w0 w' ∧ KeepR w w' g :=
  (rLeft.calls g s0 s1 s2 r1 w0 w hI hB h).mono fun _ _ ⟨h1, h2, h3, h4⟩ => ⟨h1, h2, h3, KeepR.of hI h4⟩
def xEnd.f (s0 : List Int) (s1 s2 : Int) : Option (Int) := rEnd.f s0 s1 s2
theorem xEnd.calls (g : Nat) (s0 : List Int) (s1 s2 : Int) (r1 : Int) (w0 w : World) (hI : IsS46 w0 w g s0 s1 s2) (hB : Below w0.heap.size w0 w) (h : xEnd.f s0 s1 s2 = some r1) :
    Calls Try.prog 31 #[.pointer (some ⟨g, 0, none⟩)] w fun e w' => e = .returned (.int .i64 r1) ∧ IsS46 w0 w' g s0 s1 s2 ∧ Below w0.heap.size w0 w' ∧ KeepR w w' g :=
  (rEnd.calls g s0 s1 s2 r1 w0 w hI hB h).mono fun _ _ ⟨h1, h2, h3, h4⟩ => ⟨h1, h2, h3, KeepR.of hI h4⟩
end Go.Proofs.Ytabljieejnhefaa.Hand
namespace Go.Proofs.Ytabljieejnhefaa.PR
open Go.RowKit Go.Proofs.YtabljieejnhefaaW.PrintWords Go.Proofs.YtabljieejnhefaaW.PrintLast Go.Proofs.YtabljieejnhefaaW.PrintMore
attribute [local go_sem] max2_int min2_int max_two min_two max_three min_three max_four min_four   -- for this text's walks alone
open Go.Proofs.Ytabljieejnhefaa.Hand
open Go.Proofs.Ytabljieejnhefaa.PA
open Go.Proofs.Ytabljieejnhefaa.PK
set_option linter.unusedVariables false
set_option linter.unusedSimpArgs false



def errW : Option Int → Value
  | none => .nilIface
  | some c => .iface 0 (.int .i64 c)
theorem errW_none : errW none = .nilIface := rfl
theorem errW_some (c : Int) : errW (some c) = .iface 0 (.int .i64 c) := rfl

-- the values' own types
/-! #### struct type 48 -/
structure S48 where
  f0 : Int
  f1 : Int
def z48 : S48 := ⟨(0 : Int), (0 : Int)⟩
def k48 : Kd S48 := Kd.iso (Kd.pair (Kd.int .i64) (Kd.int .i64)) (fun x : S48 => (x.f0, x.f1))
theorem k48_open {w : World} {x : S48} {cs : List Value} (h : k48.K w x cs) : cs = [.int .i64 x.f0, .int .i64 x.f1] := by
  obtain ⟨_, _, rfl, rfl, rfl⟩ := h
  exact rfl
theorem k48_openM {w : World} {base : Nat} {ok : Nat → Prop} {x : S48} {cs : List Value} (h : k48.M w base ok x cs) : cs = [.int .i64 x.f0, .int .i64 x.f1] := by
  obtain ⟨_, _, rfl, rfl, rfl⟩ := h
  exact rfl
theorem k48_mk (w : World) (x : S48)  : k48.K w x [.int .i64 x.f0, .int .i64 x.f1] := ⟨[.int .i64 x.f0], [.int .i64 x.f1], rfl, rfl, rfl⟩
theorem k48_mkM (w : World) (base : Nat) (ok : Nat → Prop) (x : S48)  : k48.M w base ok x [.int .i64 x.f0, .int .i64 x.f1] := ⟨[.int .i64 x.f0], [.int .i64 x.f1], rfl, rfl, rfl⟩
def rd_T48 (xs : List S48) (i : Int) : S48 := xs.getD i.toNat z48
theorem at_T48 {w : World} {A : Option Addr} {n : Nat} {xs : List S48} (h : Kd.C k48 w A n xs) (i : Int) (h0 : 0 ≤ i) (h1 : i < n) : ∃ ad , A = some ad ∧ w.cell? (ad.add (i.toNat * 2)) = some (.int .i64 (rd_T48 xs i).f0) ∧ w.cell? ⟨(ad.add (i.toNat * 2)).block, (ad.add (i.toNat * 2)).off + 1, none⟩ = some (.int .i64 (rd_T48 xs i).f1) := by
  obtain ⟨ad, c, e, _, hK, hc0⟩ := Kd.C_get h z48 i h0 h1
  have hc : ∀ j u, c[j]? = some u → w.cell? (ad.add (i.toNat * 2 + j)) = some u := hc0
  obtain rfl := k48_open hK
  exact ⟨ad, e, hc 0 _ rfl, by rw [← add_field _ _ 1 (by omega)]; exact hc 1 _ rfl⟩

end Go.Proofs.Ytabljieejnhefaa.PR
namespace Go.Proofs.Ytabljieejnhefaa.PR
open Go.RowKit Go.Proofs.YtabljieejnhefaaW.PrintWords Go.Proofs.YtabljieejnhefaaW.PrintLast Go.Proofs.YtabljieejnhefaaW.PrintMore
attribute [local go_sem] max2_int min2_int max_two min_two max_three min_three max_four min_four   -- for this text's walks alone
open Go.Proofs.Ytabljieejnhefaa.Hand
open Go.Proofs.Ytabljieejnhefaa.PA
open Go.Proofs.Ytabljieejnhefaa.PK
set_option linter.unusedVariables false
set_option linter.unusedSimpArgs false

/-! ### tiklaw2_WireReads: function 7 -/
mutual
def tiklaw2_WireReads.j0 : Nat → List Int → List (S48) → Bool → Option (Bool)
  | 0, _, _, _ => none
  | k + 1, x0, x1, x18 => if x18 = true then ((tiklaw2_first.f).bind fun t102 => (some t102)) else ((newReader.f x0).bind fun bt103 => ((refReader.f x0).bind fun bt107 => (if false = true then (some false) else (tiklaw2_WireReads.l0 k x1 0 bt103.1 bt103.2.1 bt103.2.2 bt107.1 bt107.2.1 bt107.2.2))))
def tiklaw2_WireReads.l0 : Nat → List (S48) → Int → List Int → Int → Int → List Int → Int → Int → Option (Bool)
  | 0, _, _, _, _, _, _, _, _ => none
  | k + 1, x1, x7, x107000, x107001, x107002, x111000, x111001, x111002 => if x7 < (x1.length : Int) then (if 0 ≤ x7 then (if ((rd_T48 x1 x7).f0) = 0 then ((wire_Reader_Num.f x107000 x107001 x107002 (IntKind.u64.wrap ((rd_T48 x1 x7).f1))).bind fun bt116 => ((xNum.f k x111000 x111001 x111002 (IntKind.u64.wrap ((rd_T48 x1 x7).f1))).bind fun bt120 => (tiklaw2_WireReads.j2 k x1 x7 (bt116.1 == bt120.1) x107000 bt116.2.1 bt116.2.2 x111000 bt120.2.1 bt120.2.2))) else (if ((rd_T48 x1 x7).f0) = 1 then ((wire_Reader_Raw.f x107000 x107001 x107002 ((rd_T48 x1 x7).f1)).bind fun bt124 => ((xRaw.f x111000 x111001 x111002 ((rd_T48 x1 x7).f1)).bind fun bt130 => ((tikref_Bytes.f bt124.1 bt130.1).bind fun t135 => (tiklaw2_WireReads.j2 k x1 x7 t135 x107000 bt124.2.1 bt124.2.2 x111000 bt130.2.1 bt130.2.2)))) else (if ((rd_T48 x1 x7).f1) < 0 then ((tiklaw2_first.f).bind fun t137 => (some t137)) else ((wire_Reader_Text.f x107000 x107001 x107002 ((rd_T48 x1 x7).f1)).bind fun bt139 => ((xText.f k x111000 x111001 x111002 (IntKind.u64.wrap ((rd_T48 x1 x7).f1))).bind fun bt143 => (tiklaw2_WireReads.j2 k x1 x7 (bt139.1.toList == bt143.1.toList) x107000 bt139.2.1 bt139.2.2 x111000 bt143.2.1 bt143.2.2)))))) else (none)) else ((tiklaw2_first.f).bind fun t111 => (if t111 = true then ((kEnd.f x107000 x107001 x107002).bind fun t112 => ((xEnd.f x111000 x111001 x111002).bind fun t113 => (some (t112 == t113)))) else (some false)))
def tiklaw2_WireReads.j2 : Nat → List (S48) → Int → Bool → List Int → Int → Int → List Int → Int → Int → Option (Bool)
  | 0, _, _, _, _, _, _, _, _, _ => none
  | k + 1, x1, x7, x8, x107000, x107001, x107002, x111000, x111001, x111002 => if x8 = true then ((kErr.f x107000 x107001 x107002).bind fun t146 => (if t146 = x111002 then ((kLeft.f x107000 x107001 x107002).bind fun t147 => ((xLeft.f x111000 x111001 x111002).bind fun t148 => (if t147 = t148 then (tiklaw2_WireReads.l0 k x1 (wrap64 (x7 + 1)) x107000 x107001 x107002 x111000 x111001 x111002) else (some false)))) else (some false))) else (some false)
end
def tiklaw2_WireReads.f (k : Nat) (l0 : List Int) (l1 : List (S48)) : Option (Bool) := (tiklaw2_first.f).bind fun t101 => (if t101 = true then (if (l0.length : Int) > 2000 then (tiklaw2_WireReads.j0 k l0 l1 true) else (tiklaw2_WireReads.j0 k l0 l1 (decide ((l1.length : Int) > 200)))) else (some false))
theorem tiklaw2_WireReads.mono_l : ∀ k, (∀ y0 y1 y2, LeO (tiklaw2_WireReads.j0 k y0 y1 y2) (tiklaw2_WireReads.j0 (k + 1) y0 y1 y2)) ∧ (∀ y0 y1 y2 y3 y4 y5 y6 y7, LeO (tiklaw2_WireReads.l0 k y0 y1 y2 y3 y4 y5 y6 y7) (tiklaw2_WireReads.l0 (k + 1) y0 y1 y2 y3 y4 y5 y6 y7)) ∧ (∀ y0 y1 y2 y3 y4 y5 y6 y7 y8, LeO (tiklaw2_WireReads.j2 k y0 y1 y2 y3 y4 y5 y6 y7 y8) (tiklaw2_WireReads.j2 (k + 1) y0 y1 y2 y3 y4 y5 y6 y7 y8))
  | 0 => ⟨fun _ _ _ r h => by simp [tiklaw2_WireReads.j0] at h, fun _ _ _ _ _ _ _ _ r h => by simp [tiklaw2_WireReads.l0] at h, fun _ _ _ _ _ _ _ _ _ r h => by simp [tiklaw2_WireReads.j2] at h⟩
  | k + 1 => by
    obtain ⟨ih0, ih1, ih2⟩ := tiklaw2_WireReads.mono_l k
    refine ⟨?_, ?_, ?_⟩
    · intro y0 y1 y2
      unfold tiklaw2_WireReads.j0
      repeat' first
      | (with_reducible exact ih0 _ _ _)
      | (with_reducible exact ih1 _ _ _ _ _ _ _ _)
      | (with_reducible exact ih2 _ _ _ _ _ _ _ _ _)
      | (with_reducible exact xNum.mono _ _ _ _ _)
      | (with_reducible exact xText.mono _ _ _ _ _)
      | (with_reducible exact LeO.refl _)
      | (with_reducible exact LeO.none _)
      | (with_reducible refine LeO.ite ?_ ?_)
      | (with_reducible refine LeO.bind ?_ (fun _ => ?_))
      | exact ih0 _ _ _
      | exact ih1 _ _ _ _ _ _ _ _
      | exact ih2 _ _ _ _ _ _ _ _ _
      | exact xNum.mono _ _ _ _ _
      | exact xText.mono _ _ _ _ _
      | exact LeO.none _
      | refine LeO.ite ?_ ?_
      | refine LeO.bind ?_ (fun _ => ?_)
    · intro y0 y1 y2 y3 y4 y5 y6 y7
      unfold tiklaw2_WireReads.l0
      repeat' first
      | (with_reducible exact ih0 _ _ _)
      | (with_reducible exact ih1 _ _ _ _ _ _ _ _)
      | (with_reducible exact ih2 _ _ _ _ _ _ _ _ _)
      | (with_reducible exact xNum.mono _ _ _ _ _)
      | (with_reducible exact xText.mono _ _ _ _ _)
      | (with_reducible exact LeO.refl _)
      | (with_reducible exact LeO.none _)
      | (with_reducible refine LeO.ite ?_ ?_)
      | (with_reducible refine LeO.bind ?_ (fun _ => ?_))
      | exact ih0 _ _ _
      | exact ih1 _ _ _ _ _ _ _ _
      | exact ih2 _ _ _ _ _ _ _ _ _
      | exact xNum.mono _ _ _ _ _
      | exact xText.mono _ _ _ _ _
      | exact LeO.none _
      | refine LeO.ite ?_ ?_
      | refine LeO.bind ?_ (fun _ => ?_)
    · intro y0 y1 y2 y3 y4 y5 y6 y7 y8
      unfold tiklaw2_WireReads.j2
      repeat' first
      | (with_reducible exact ih0 _ _ _)
      | (with_reducible exact ih1 _ _ _ _ _ _ _ _)
      | (with_reducible exact ih2 _ _ _ _ _ _ _ _ _)
      | (with_reducible exact xNum.mono _ _ _ _ _)
      | (with_reducible exact xText.mono _ _ _ _ _)
      | (with_reducible exact LeO.refl _)
      | (with_reducible exact LeO.none _)
      | (with_reducible refine LeO.ite ?_ ?_)
      | (with_reducible refine LeO.bind ?_ (fun _ => ?_))
      | exact ih0 _ _ _
      | exact ih1 _ _ _ _ _ _ _ _
      | exact ih2 _ _ _ _ _ _ _ _ _
      | exact xNum.mono _ _ _ _ _
      | exact xText.mono _ _ _ _ _
      | exact LeO.none _
      | refine LeO.ite ?_ ?_
      | refine LeO.bind ?_ (fun _ => ?_)
theorem tiklaw2_WireReads.mono : ∀ a0 a1 k, LeO (tiklaw2_WireReads.f k a0 a1) (tiklaw2_WireReads.f (k + 1) a0 a1) := by
  intro a0 a1 k
  obtain ⟨ih0, ih1, ih2⟩ := tiklaw2_WireReads.mono_l k
  unfold tiklaw2_WireReads.f
  repeat' first
      | (with_reducible exact ih0 _ _ _)
      | (with_reducible exact ih1 _ _ _ _ _ _ _ _)
      | (with_reducible exact ih2 _ _ _ _ _ _ _ _ _)
      | (with_reducible exact xNum.mono _ _ _ _ _)
      | (with_reducible exact xText.mono _ _ _ _ _)
      | (with_reducible exact LeO.refl _)
      | (with_reducible exact LeO.none _)
      | (with_reducible refine LeO.ite ?_ ?_)
      | (with_reducible refine LeO.bind ?_ (fun _ => ?_))
      | exact ih0 _ _ _
      | exact ih1 _ _ _ _ _ _ _ _
      | exact ih2 _ _ _ _ _ _ _ _ _
      | exact xNum.mono _ _ _ _ _
      | exact xText.mono _ _ _ _ _
      | exact LeO.none _
      | refine LeO.ite ?_ ?_
      | refine LeO.bind ?_ (fun _ => ?_)
def tiklaw2_WireReads.T15 : Bool × List (List Nat × List Nat) := (true, [([], []), ([], []), ([], []), ([1, 2], [1, 2]), ([3], [3]), ([4], [4]), ([0, 5], [0, 5]), ([], []), ([], []), ([], []), ([8, 9], [8, 9]), ([10], [10]), ([11], [11]), ([12], [12]), ([7, 13, 6], [7, 13]), ([6, 14], [6, 14]), ([15, 14, 0, 1, 2, 3, 4, 5, 6, 7, 8, 9, 10, 11, 12, 13, 14, 15], [15])])
def tiklaw2_WireReads.B15 : List Nat := [0, 0, 0, 6, 14, 30, 63, 0, 0, 0, 768, 1792, 3840, 7936, 16383, 32767, 65535]
theorem tiklaw2_WireReads.tab15 : rtab .any (opsOf Try.f7 15) = tiklaw2_WireReads.T15 := by kernel_rfl
theorem tiklaw2_WireReads.bits15 : waitsOk tiklaw2_WireReads.T15.2 tiklaw2_WireReads.B15 = true := by kernel_rfl
def tiklaw2_WireReads.T17 : Bool × List (List Nat × List Nat) := (true, [([], []), ([], []), ([], []), ([1, 2], [1, 2]), ([3], [3]), ([4], [4]), ([5], [5]), ([0, 6], [0, 6]), ([], []), ([], []), ([], []), ([9, 10], [9, 10]), ([11], [11]), ([12], [12]), ([13], [13]), ([8, 14, 7], [8, 14]), ([7, 15], [7, 15]), ([16, 15, 0, 1, 2, 3, 4, 5, 6, 7, 8, 9, 10, 11, 12, 13, 14, 15, 16], [16])])
def tiklaw2_WireReads.B17 : List Nat := [0, 0, 0, 6, 14, 30, 62, 127, 0, 0, 0, 1536, 3584, 7680, 15872, 32767, 65535, 131071]
theorem tiklaw2_WireReads.tab17 : rtab .any (opsOf Try.f7 17) = tiklaw2_WireReads.T17 := by kernel_rfl
theorem tiklaw2_WireReads.bits17 : waitsOk tiklaw2_WireReads.T17.2 tiklaw2_WireReads.B17 = true := by kernel_rfl
def tiklaw2_WireReads.T19 : Bool × List (List Nat × List Nat) := (true, [([], []), ([], []), ([], []), ([1, 2], [1, 2]), ([3], [3]), ([4], [4]), ([0, 5], [0, 5]), ([], []), ([], []), ([], []), ([8, 9], [8, 9]), ([10], [10]), ([11], [11]), ([7, 12, 6], [7, 12]), ([6, 13, 13], [6, 13]), ([14, 14, 0, 1, 2, 3, 4, 5, 6, 7, 8, 9, 10, 11, 12, 13, 14], [14])])
def tiklaw2_WireReads.B19 : List Nat := [0, 0, 0, 6, 14, 30, 63, 0, 0, 0, 768, 1792, 3840, 8191, 16383, 32767]
theorem tiklaw2_WireReads.tab19 : rtab .any (opsOf Try.f7 19) = tiklaw2_WireReads.T19 := by kernel_rfl
theorem tiklaw2_WireReads.bits19 : waitsOk tiklaw2_WireReads.T19.2 tiklaw2_WireReads.B19 = true := by kernel_rfl
def tiklaw2_WireReads.T20 : Bool × List (List Nat × List Nat) := (true, [([], []), ([0], [0]), ([1], [1]), ([2], [2]), ([3, 2, 2], [2, 3]), ([2], [2]), ([5, 2], [2, 5]), ([6, 2], [2, 6]), ([7, 2], [2, 7]), ([4, 8, 2], [2, 4, 8]), ([2, 9], [2, 9]), ([10, 4], [10]), ([11], [11]), ([12, 11, 11], [11, 12]), ([11], [11]), ([14, 13, 11], [11, 14]), ([13, 15, 11], [11, 13, 15]), ([11, 16], [11, 16])])
def tiklaw2_WireReads.B20 : List Nat := [0, 1, 3, 7, 15, 7, 39, 103, 231, 511, 1023, 2047, 4095, 8191, 4095, 32767, 65535, 131071]
theorem tiklaw2_WireReads.tab20 : rtab .any (opsOf Try.f7 20) = tiklaw2_WireReads.T20 := by kernel_rfl
theorem tiklaw2_WireReads.bits20 : waitsOk tiklaw2_WireReads.T20.2 tiklaw2_WireReads.B20 = true := by kernel_rfl
set_option maxHeartbeats 8000000 in
set_option maxRecDepth 100000 in
theorem tiklaw2_WireReads.calls (k : Nat) (A0 : Option Addr) (c0 : Nat) (l0 : List Int) (A1 : Option Addr) (c1 : Nat) (l1 : List (S48)) (r : Bool) (w : World) (hr0 : Kd.C (Kd.int .u8) w A0 l0.length l0) (hc0 : l0.length ≤ c0) (hr1 : Kd.C k48 w A1 l1.length l1) (hc1 : l1.length ≤ c1) (hr_ : Aside0 (r = true)) (h : tiklaw2_WireReads.f k l0 l1 = some r) :
    Calls Try.prog 7 #[.slice A0 l0.length c0, .slice A1 l1.length c1] w fun e w' => e = .returned (.bool r) ∧ Below w.heap.size w w' := by
  have hu46 := Try.underlying46
  have HR0 := Aside0.mk hr0
  have HC0 := Aside0.mk hc0
  clear hr0 hc0
  have HR1 := Aside0.mk hr1
  have HC1 := Aside0.mk hc1
  clear hr1 hc1
  have HB := Aside0.mk (Below.refl w.heap.size w)
  have H : ((tiklaw2_first.f).bind fun t101 => (if t101 = true then (if (l0.length : Int) > 2000 then (tiklaw2_WireReads.j0 k l0 l1 true) else (tiklaw2_WireReads.j0 k l0 l1 (decide ((l1.length : Int) > 200)))) else (some false))) = some r := h
  clear h
  replace H := Option.bind_eq_some_iff.mp H
  obtain ⟨t101, A30, H⟩ := H
  replace H : (if t101 = true then (if (l0.length : Int) > 2000 then (tiklaw2_WireReads.j0 k l0 l1 true) else (tiklaw2_WireReads.j0 k l0 l1 (decide ((l1.length : Int) > 200)))) else (some false)) = some r := H
  have A3 := Aside0.mk A30
  clear A30
  by_cases c4 : t101 = true
  · subst c4
    have H1 : (if (l0.length : Int) > 2000 then (tiklaw2_WireReads.j0 k l0 l1 true) else (tiklaw2_WireReads.j0 k l0 l1 (decide ((l1.length : Int) > 200)))) = some r := by rw [if_pos rfl] at H; exact H
    clear H
    have H := H1
    clear H1
    have HC5 := Aside0.mk H
    clear H
    go_enter Try.func7, Try.ntmps7
    go_upto_region 3 with (first | ((with_reducible refine gate_callee (f := 9) rfl ?_); refine goesL_ (some 9) rfl rfl Try.func9 (by kernel_rfl) rfl #[] rfl (by (try simp only [List.map_toArray, List.map_cons, List.map_nil]); first | done | rfl | (simp only [List.length_drop, List.length_take]; rfl)) ?_; (with_reducible refine (tiklaw2_first.calls  true _ A3.out).mono ?_); rintro e w6 ⟨rfl, hb⟩; refine ⟨_, rfl, ?_⟩; have n0_ := Aside0.mk (below_step (by repeat (first | (with_reducible first | exact HB.out | apply below_alloc | apply pw_below_drewN | apply below_drew1) | exact HB.out)) hb); clear HB; have HB := n0_; clear n0_; (try clear hb); (try clear hb2); (try clear hk); (try clear hi)))
    (try simp only [Act.put, List.setIfInBounds_toArray, List.set_cons_zero, List.set_cons_succ])
    go_cut [18] (fun v18 wc => ∃ (kq : Nat) (x18_4 : Bool), v18 = .bool x18_4 ∧ Aside0 (tiklaw2_WireReads.j0 kq l0 l1 x18_4 = some r) ∧ Aside0 (kq ≤ k) ∧ Aside0 (Below w.heap.size w wc))
    case first =>
      have H := HC5.out
      clear HC5
      by_cases c7 : (l0.length : Int) > 2000
      · rw [if_pos c7] at H
        have c7b0 : decide (2000 < (l0.length : Int)) = true := decide_eq_true c7
        have c7b1 : decide (2000 < l0.length) = true := decide_eq_true (by omega)
        clear c7
        (first | rw [c7b0] | (simp only [i64_w, i32_w]; rw [c7b0]) | skip)
        have H' := Aside0.mk H
        clear H
        go_wp2
        go_meet
        case rel => exact ⟨_, (true), (by first | rfl | (simp; done) | (simp [*]; done)), H', ⟨by first | omega | exact Nat.le_refl _⟩, ⟨by repeat (first | (with_reducible first | exact HB.out | apply below_alloc | apply pw_below_drewN | apply below_drew1) | exact HB.out)⟩⟩
      · rw [if_neg c7] at H
        have c7b0 : decide (2000 < (l0.length : Int)) = false := decide_eq_false c7
        have c7b1 : decide (2000 < l0.length) = false := decide_eq_false (by omega)
        clear c7
        (first | rw [c7b0] | (simp only [i64_w, i32_w]; rw [c7b0]) | skip)
        have H' := Aside0.mk H
        clear H
        go_wp2
        go_meet
        case rel => exact ⟨_, (decide ((l1.length : Int) > 200)), (by first | rfl | (simp; done) | (simp [*]; done)), H', ⟨by first | omega | exact Nat.le_refl _⟩, ⟨by repeat (first | (with_reducible first | exact HB.out | apply below_alloc | apply pw_below_drewN | apply below_drew1) | exact HB.out)⟩⟩
    case rest =>
      clear HC5
      try clear c1
      try clear p2
      try clear c4
      try clear c7
      try clear c7b0
      try clear c7b1
      obtain ⟨kq, x18_4, rfl, HA, HJ4, HB⟩ := hcut
      cases kq with
      | zero => exact absurd HA.out (by simp [tiklaw2_WireReads.j0])
      | succ kj4 =>
        have H := HA.out
        clear HA
        simp only [tiklaw2_WireReads.j0] at H
        by_cases c8 : x18_4 = true
        · subst c8
          have H1 : ((tiklaw2_first.f).bind fun t102 => (some t102)) = some r := by rw [if_pos rfl] at H; exact H
          clear H
          have H := H1
          clear H1
          replace H := Option.bind_eq_some_iff.mp H
          obtain ⟨t102, A90, H⟩ := H
          replace H : (some t102) = some r := H
          have A9 := Aside0.mk A90
          clear A90
          obtain rfl := Option.some.inj H
          go_wp2_with (first | ((with_reducible refine gate_callee (f := 9) rfl ?_); refine goesL_ (some 19) rfl rfl Try.func9 (by kernel_rfl) rfl #[] rfl (by (try simp only [List.map_toArray, List.map_cons, List.map_nil]); first | done | rfl | (simp only [List.length_drop, List.length_take]; rfl)) ?_; (with_reducible refine (tiklaw2_first.calls  t102 _ A9.out).mono ?_); rintro e w10 ⟨rfl, hb⟩; refine ⟨_, rfl, ?_⟩; have n0_ := Aside0.mk (below_step (by repeat (first | (with_reducible first | exact HB.out | apply below_alloc | apply pw_below_drewN | apply below_drew1) | exact HB.out)) hb); clear HB; have HB := n0_; clear n0_; (try clear hb); (try clear hb2); (try clear hk); (try clear hi)))
          go_ret
          exact ⟨by first | rfl | (simp [errW_none, errW_some] <;> rfl) | (simp [*, errW_none, errW_some] <;> rfl), by repeat (first | (with_reducible first | exact HB.out | apply below_alloc | apply pw_below_drewN | apply below_drew1) | exact HB.out)⟩
        · replace c8 := Bool.eq_false_iff.mpr c8
          subst c8
          have H1 : ((newReader.f l0).bind fun bt103 => ((refReader.f l0).bind fun bt107 => (if false = true then (some false) else (tiklaw2_WireReads.l0 kj4 l1 0 bt103.1 bt103.2.1 bt103.2.2 bt107.1 bt107.2.1 bt107.2.2)))) = some r := by rw [if_neg (show ¬ (false = true) by decide)] at H; exact H
          clear H
          have H := H1
          clear H1
          replace H := Option.bind_eq_some_iff.mp H
          obtain ⟨⟨t103, t104, t105⟩, A110, H⟩ := H
          replace H : ((refReader.f l0).bind fun bt107 => (if false = true then (some false) else (tiklaw2_WireReads.l0 kj4 l1 0 t103 t104 t105 bt107.1 bt107.2.1 bt107.2.2))) = some r := H
          have A11 := Aside0.mk A110
          clear A110
          replace H := Option.bind_eq_some_iff.mp H
          obtain ⟨⟨t107, t108, t109⟩, A120, H⟩ := H
          replace H : (if false = true then (some false) else (tiklaw2_WireReads.l0 kj4 l1 0 t103 t104 t105 t107 t108 t109)) = some r := H
          have A12 := Aside0.mk A120
          clear A120
          have H1 : (tiklaw2_WireReads.l0 kj4 l1 0 t103 t104 t105 t107 t108 t109) = some r := by first | (rw [if_neg (show ¬ (false = true) by decide)] at H; exact H) | exact (if_neg not_false).symm.trans H
          clear H
          have H := H1
          clear H1
          have H' := Aside0.mk H
          clear H
          go_wp2_with (first | ((with_reducible refine gate_callee (f := 20) rfl ?_); refine goesL_ (some 21) rfl rfl Try.func20 (by kernel_rfl) rfl #[.slice A0 l0.length c0] rfl (by (try simp only [List.map_toArray, List.map_cons, List.map_nil]); first | done | rfl | (simp only [List.length_drop, List.length_take]; rfl)) ?_; (with_reducible refine (newReader.calls _ _ l0 t103 t104 t105 w _ ?side1 ?side2 ?side3 A11.out).mono ?_); (case side1 => repeat (first | (with_reducible first | exact HB.out | apply below_alloc | apply pw_below_drewN | apply below_drew1) | exact HB.out)); (case side2 => repeat (first | exact (Kd.C_below HR0.out HB.out) | (with_reducible refine Kd.C_alloc ?_ _) | (with_reducible refine Kd.C_drewN ?_ _) | (with_reducible refine Kd.C_drew ?_))); (case side3 => exact HC0.out); rintro e w13 ⟨g106, rfl, hi, hb, hb2, hnew⟩; refine ⟨_, rfl, ?_⟩; have n0_ := Aside0.mk (hb); have n1_ := Aside0.mk (hi); clear HB; have HB := n0_; have HI106 := n1_; clear n0_ n1_; (try clear hb); (try clear hb2); (try clear hk); (try clear hi)) | ((with_reducible refine gate_dst (N := 24) rfl ?_); refine box_event ?hg (N := 24) ?hd (cs := #[.slice A0 l0.length c0, .int .i64 0, .int .i64 0]) (t := 46) ?hr ?_; (case hd => rfl); (case hg => rfl); (case hr => first | (go_simp; done) | (go_simp; rfl)); intro g110 hg_ w14 hbox_ hb2; have hnew := Nat.le_of_eq hg_.symm; have hi := refReader_is HB.out HR0.out HC0.out hbox_ hnew A12.out; have hb := below_step HB.out hb2; clear hbox_ hg_; have n0_ := Aside0.mk ((Nat.ne_of_lt (Nat.lt_of_lt_of_le (IsS57.lt (show IsS57 w _ g106 t103 t104 t105 from by repeat (first | (with_reducible first | exact HI106.out | apply IsS57.alloc | apply IsS57.drewN | apply IsS57.drew) | exact HI106.out))) hnew) : g106 ≠ g110)); have n1_ := Aside0.mk ((Nat.ne_of_gt (Nat.lt_of_lt_of_le (IsS57.lt (show IsS57 w _ g106 t103 t104 t105 from by repeat (first | (with_reducible first | exact HI106.out | apply IsS57.alloc | apply IsS57.drewN | apply IsS57.drew) | exact HI106.out))) hnew) : g110 ≠ g106)); have n2_ := Aside0.mk (IsS57.below (by repeat (first | (with_reducible first | exact HI106.out | apply IsS57.alloc | apply IsS57.drewN | apply IsS57.drew) | exact HI106.out)) hb2); have n3_ := Aside0.mk (hb); have n4_ := Aside0.mk (hi); clear HI106; clear HB; have NB106_110 := n0_; have NB110_106 := n1_; have HI106 := n2_; have HB := n3_; have HI110 := n4_; clear n0_ n1_ n2_ n3_ n4_; (try clear hb); (try clear hb2); (try clear hk); (try clear hi)))
          go_loopg [7] kj4 (fun kq v7 w' => ∃ (x7_2 : Int) (x107001_2 : Int) (x107002_2 : Int) (x111001_2 : Int) (x111002_2 : Int), v7 = .int .i64 x7_2 ∧ Aside0 (tiklaw2_WireReads.l0 kq l1 x7_2 t103 x107001_2 x107002_2 t107 x111001_2 x111002_2 = some r) ∧ Aside0 (kq ≤ kj4) ∧ Aside0 (IsS57 w w' g106 t103 x107001_2 x107002_2) ∧ Aside0 (IsS46 w w' g110 t107 x111001_2 x111002_2) ∧ Aside0 (Below w.heap.size w w'))
          case atStart => exact ⟨(0), (t104), (t105), (t108), (t109), (by first | rfl | (simp; done) | (simp [*]; done)), H', ⟨Nat.le_refl _⟩, ⟨by repeat (first | (with_reducible first | exact HI106.out | apply IsS57.alloc | apply IsS57.drewN | apply IsS57.drew) | exact HI106.out)⟩, ⟨by repeat (first | (with_reducible first | exact HI110.out | apply IsS46.alloc | apply IsS46.drewN | apply IsS46.drew) | exact HI110.out)⟩, ⟨by repeat (first | (with_reducible first | exact HB.out | apply below_alloc | apply pw_below_drewN | apply below_drew1 | refine below_set ?_ (IsS57.ge HI106.out) | refine below_set ?_ (IsS46.ge HI110.out)) | exact HB.out)⟩⟩
          case round =>
            clear H'
            try clear c1
            try clear c2
            try clear p2
            try clear c4
            try clear c6
            try clear c7
            try clear c7b0
            try clear c7b1
            try clear c8
            try clear c9
            try clear p2
            obtain ⟨x7_2, x107001_2, x107002_2, x111001_2, x111002_2, rfl, HA, HK2, HI106, HI110, HB⟩ := hrel
            cases gk with
            | zero => exact absurd HA.out (by simp [tiklaw2_WireReads.l0])
            | succ k2 =>
              have H := HA.out
              clear HA
              simp only [tiklaw2_WireReads.l0] at H
              by_cases c15 : x7_2 < (l1.length : Int)
              · rw [if_pos c15] at H
                have c15b0 : decide (x7_2 < (l1.length : Int)) = true := decide_eq_true c15
                clear c15
                by_cases c16 : 0 ≤ x7_2
                · rw [if_pos c16] at H
                  have c16b0 : decide (0 ≤ x7_2) = true := decide_eq_true c16
                  clear c16
                  have HC17 := Aside0.mk H
                  clear H
                  have p114 : 0 ≤ (x7_2 : Int) := of_decide_eq_true (by first | (with_reducible assumption) | assumption)
                  have q114 : x7_2 < (l1.length : Int) := of_decide_eq_true (by first | (with_reducible assumption) | assumption)
                  obtain ⟨ad114, e114, hx114_0, hx114_1⟩ := at_T48 HR1.out x7_2 p114 q114
                  cases e114
                  replace hx114_0 := (HB.out.cell (World.block_lt_of_cell? w _ hx114_0)).trans hx114_0
                  replace hx114_1 := (HB.out.cell (World.block_lt_of_cell? w _ hx114_1)).trans hx114_1
                  replace p114 := eq_true p114
                  replace q114 := eq_true q114
                  go_upto_block 2 with (fail)
                  go_cut [8] (fun v8 wc => ∃ (kq : Nat) (x8_16 : Bool) (x107001_16 : Int) (x107002_16 : Int) (x111001_16 : Int) (x111002_16 : Int), v8 = .bool x8_16 ∧ Aside0 (tiklaw2_WireReads.j2 kq l1 x7_2 x8_16 t103 x107001_16 x107002_16 t107 x111001_16 x111002_16 = some r) ∧ Aside0 (kq ≤ k2) ∧ Aside0 (IsS57 w wc g106 t103 x107001_16 x107002_16) ∧ Aside0 (IsS46 w wc g110 t107 x111001_16 x111002_16) ∧ Aside0 (Below w.heap.size w wc))
                  case first =>
                    have H := HC17.out
                    clear HC17
                    by_cases c18 : ((rd_T48 l1 x7_2).f0) = 0
                    · rw [if_pos c18] at H
                      have c18b0 : (((rd_T48 l1 x7_2).f0) == 0) = true := beq_iff_eq.mpr c18
                      have c18b1 : (((rd_T48 l1 x7_2).f0) != 0) = false := bne_eq_false_iff_eq.mpr c18
                      clear c18
                      (first | rw [c18b0] | (simp only [i64_w, i32_w]; rw [c18b0]) | skip)
                      replace H := Option.bind_eq_some_iff.mp H
                      obtain ⟨⟨t116, t117, t118⟩, A190, H⟩ := H
                      replace H : ((xNum.f k2 t107 x111001_2 x111002_2 (IntKind.u64.wrap ((rd_T48 l1 x7_2).f1))).bind fun bt120 => (tiklaw2_WireReads.j2 k2 l1 x7_2 (t116 == bt120.1) t103 t117 t118 t107 bt120.2.1 bt120.2.2)) = some r := H
                      have A19 := Aside0.mk A190
                      clear A190
                      replace H := Option.bind_eq_some_iff.mp H
                      obtain ⟨⟨t120, t121, t122⟩, A200, H⟩ := H
                      replace H : (tiklaw2_WireReads.j2 k2 l1 x7_2 (t116 == t120) t103 t117 t118 t107 t121 t122) = some r := H
                      have A20 := Aside0.mk A200
                      clear A200
                      have H' := Aside0.mk H
                      clear H
                      try go_wp2
                      have n0_ := Aside0.mk (IsS57.drew HI106.out)
                      have n1_ := Aside0.mk (IsS46.drew HI110.out)
                      have n2_ := Aside0.mk (below_drew1 HB.out)
                      clear HI106
                      clear HI110
                      clear HB
                      have HI106 := n0_
                      have HI110 := n1_
                      have HB := n2_
                      clear n0_ n1_ n2_
                      have p115 : 0 ≤ (x7_2 : Int) := of_decide_eq_true (by first | (with_reducible assumption) | assumption)
                      have q115 : x7_2 < (l1.length : Int) := of_decide_eq_true (by first | (with_reducible assumption) | assumption)
                      obtain ⟨ad115, e115, hx115_0, hx115_1⟩ := at_T48 HR1.out x7_2 p115 q115
                      have hw115_1 := hx115_1
                      have hw115_0 := hx115_0
                      obtain rfl : ad114 = ad115 := (by injection e115)
                      replace hx115_0 := (HB.out.cell (World.block_lt_of_cell? w _ hx115_0)).trans hx115_0
                      replace hx115_1 := (HB.out.cell (World.block_lt_of_cell? w _ hx115_1)).trans hx115_1
                      replace p115 := eq_true p115
                      replace q115 := eq_true q115
                      have p119 : 0 ≤ (x7_2 : Int) := of_decide_eq_true (by first | (with_reducible assumption) | assumption)
                      have q119 : x7_2 < (l1.length : Int) := of_decide_eq_true (by first | (with_reducible assumption) | assumption)
                      obtain ⟨ad119, e119, hx119_0, hx119_1⟩ := at_T48 HR1.out x7_2 p119 q119
                      have hw119_1 := hx119_1
                      have hw119_0 := hx119_0
                      obtain rfl : ad114 = ad119 := (by injection e119)
                      replace hx119_0 := (HB.out.cell (World.block_lt_of_cell? w _ hx119_0)).trans hx119_0
                      replace hx119_1 := (HB.out.cell (World.block_lt_of_cell? w _ hx119_1)).trans hx119_1
                      replace p119 := eq_true p119
                      replace q119 := eq_true q119
                      refine start_ (n := 18) (S := fun w' => w'.cell? (ad114.add ((x7_2).toNat * 2)) = some (.int .i64 ((rd_T48 l1 x7_2).f0)) ∧ w'.cell? ⟨(ad114.add ((x7_2).toNat * 2)).block, (ad114.add ((x7_2).toNat * 2)).off + 1, none⟩ = some (.int .i64 ((rd_T48 l1 x7_2).f1)) ∧ w'.cell? (ad114.add ((x7_2).toNat * 2)) = some (.int .i64 ((rd_T48 l1 x7_2).f0)) ∧ w'.cell? ⟨(ad114.add ((x7_2).toNat * 2)).block, (ad114.add ((x7_2).toNat * 2)).off + 1, none⟩ = some (.int .i64 ((rd_T48 l1 x7_2).f1))) (ds := []) #[false, false, false, false, false, false, false, false, false, false, false, false, false, false, false, false, false, false] (by kernel_rfl) rfl rfl ⟨((HB.out.cell (World.block_lt_of_cell? w _ hw115_0)).trans hw115_0), ((HB.out.cell (World.block_lt_of_cell? w _ hw115_1)).trans hw115_1), ((HB.out.cell (World.block_lt_of_cell? w _ hw119_0)).trans hw119_0), ((HB.out.cell (World.block_lt_of_cell? w _ hw119_1)).trans hw119_1)⟩ (fun hHeld => ?_); refine with_tabW tiklaw2_WireReads.tab17 tiklaw2_WireReads.bits17 (fun HT_ HW_ => ?_)
                      generalize wr.drew = w21 at HI106 HI110 HB hx115_0 hx115_1 hx119_0 hx119_1 hHeld ⊢
                      refine pure_ (i := 0) (N := some 63) (v := ?_) (a' := ?_) #[true, false, false, false, false, false, false, false, false, false, false, false, false, false, false, false, false, false] rfl rfl (any_of HT_.out (by kernel_rfl)) (fun _ _ _ h => h) (Or.inl ⟨by rfl, ?_⟩) ?_ ?_
                      rotate_left
                      · intro w'
                        go_simp
                        with_reducible rfl
                      rotate_left
                      · simp only [Act.put, List.setIfInBounds_toArray, List.set_cons_zero, List.set_cons_succ, i64_w, i32_w]
                        rfl
                      refine pure_ (i := 1) (N := some 64) (v := ?_) (a' := ?_) #[true, true, false, false, false, false, false, false, false, false, false, false, false, false, false, false, false, false] rfl rfl (any_of HT_.out (by kernel_rfl)) (fun _ _ _ h => h) (Or.inl ⟨by rfl, ?_⟩) ?_ ?_
                      rotate_left
                      · intro w'
                        go_simp
                        with_reducible rfl
                      rotate_left
                      · simp only [Act.put, List.setIfInBounds_toArray, List.set_cons_zero, List.set_cons_succ, i64_w, i32_w]
                        rfl
                      refine pure_ (i := 2) (N := some 65) (v := ?_) (a' := ?_) #[true, true, true, false, false, false, false, false, false, false, false, false, false, false, false, false, false, false] rfl rfl (any_of HT_.out (by kernel_rfl)) (fun _ _ _ h => h) (Or.inl ⟨by rfl, ?_⟩) ?_ ?_
                      rotate_left
                      · intro w'
                        go_simp
                        with_reducible rfl
                      rotate_left
                      · simp only [Act.put, List.setIfInBounds_toArray, List.set_cons_zero, List.set_cons_succ, i64_w, i32_w]
                        rfl
                      refine pure_ (i := 3) (N := some 66) (v := ?_) (a' := ?_) #[true, true, true, true, false, false, false, false, false, false, false, false, false, false, false, false, false, false] rfl rfl (any_of HT_.out (by kernel_rfl)) (fun _ _ _ h => h) (Or.inl ⟨by rfl, ?_⟩) ?_ ?_
                      rotate_left
                      · intro w'
                        go_simp
                        with_reducible rfl
                      rotate_left
                      · simp only [Act.put, List.setIfInBounds_toArray, List.set_cons_zero, List.set_cons_succ, i64_w, i32_w]
                        rfl
                      refine pure_ (i := 4) (N := some 67) (v := ?_) (a' := ?_) #[true, true, true, true, true, false, false, false, false, false, false, false, false, false, false, false, false, false] rfl rfl (any_of HT_.out (by kernel_rfl)) (fun _ _ _ h => h) (Or.inl ⟨by rfl, ?_⟩) ?_ ?_
                      rotate_left
                      · intro w'
                        go_simp
                        with_reducible rfl
                      rotate_left
                      · simp only [Act.put, List.setIfInBounds_toArray, List.set_cons_zero, List.set_cons_succ, i64_w, i32_w]
                        rfl
                      refine pure_ (i := 8) (N := some 71) (v := ?_) (a' := ?_) #[true, true, true, true, true, false, false, false, true, false, false, false, false, false, false, false, false, false] rfl rfl (any_of HT_.out (by kernel_rfl)) (fun _ _ _ h => h) (Or.inl ⟨by rfl, ?_⟩) ?_ ?_
                      rotate_left
                      · intro w'
                        go_simp
                        with_reducible rfl
                      rotate_left
                      · simp only [Act.put, List.setIfInBounds_toArray, List.set_cons_zero, List.set_cons_succ, i64_w, i32_w]
                        rfl
                      refine pure_ (i := 9) (N := some 72) (v := ?_) (a' := ?_) #[true, true, true, true, true, false, false, false, true, true, false, false, false, false, false, false, false, false] rfl rfl (any_of HT_.out (by kernel_rfl)) (fun _ _ _ h => h) (Or.inl ⟨by rfl, ?_⟩) ?_ ?_
                      rotate_left
                      · intro w'
                        go_simp
                        with_reducible rfl
                      rotate_left
                      · simp only [Act.put, List.setIfInBounds_toArray, List.set_cons_zero, List.set_cons_succ, i64_w, i32_w]
                        rfl
                      refine pure_ (i := 10) (N := some 73) (v := ?_) (a' := ?_) #[true, true, true, true, true, false, false, false, true, true, true, false, false, false, false, false, false, false] rfl rfl (any_of HT_.out (by kernel_rfl)) (fun _ _ _ h => h) (Or.inl ⟨by rfl, ?_⟩) ?_ ?_
                      rotate_left
                      · intro w'
                        go_simp
                        with_reducible rfl
                      rotate_left
                      · simp only [Act.put, List.setIfInBounds_toArray, List.set_cons_zero, List.set_cons_succ, i64_w, i32_w]
                        rfl
                      refine pure_ (i := 11) (N := some 74) (v := ?_) (a' := ?_) #[true, true, true, true, true, false, false, false, true, true, true, true, false, false, false, false, false, false] rfl rfl (any_of HT_.out (by kernel_rfl)) (fun _ _ _ h => h) (Or.inl ⟨by rfl, ?_⟩) ?_ ?_
                      rotate_left
                      · intro w'
                        go_simp
                        with_reducible rfl
                      rotate_left
                      · simp only [Act.put, List.setIfInBounds_toArray, List.set_cons_zero, List.set_cons_succ, i64_w, i32_w]
                        rfl
                      refine pure_ (i := 12) (N := some 75) (v := ?_) (a' := ?_) #[true, true, true, true, true, false, false, false, true, true, true, true, true, false, false, false, false, false] rfl rfl (any_of HT_.out (by kernel_rfl)) (fun _ _ _ h => h) (Or.inl ⟨by rfl, ?_⟩) ?_ ?_
                      rotate_left
                      · intro w'
                        go_simp
                        with_reducible rfl
                      rotate_left
                      · simp only [Act.put, List.setIfInBounds_toArray, List.set_cons_zero, List.set_cons_succ, i64_w, i32_w]
                        rfl
                      refine take_ (i := 5) (N := some 68) (v := ?_) (a' := ?_) #[true, true, true, true, true, true, false, false, true, true, true, true, true, false, false, false, false, false] rfl rfl (take_ofW HT_.out HW_.out (by kernel_rfl)) (fun _ _ _ h => h) (Or.inl ⟨by rfl, ?_⟩) hHeld ?_ ?_
                      rotate_left
                      · rintro w' ⟨s0, s1, s2, s3⟩
                        go_simp
                        with_reducible rfl
                      rotate_left
                      · simp only [Act.put, List.setIfInBounds_toArray, List.set_cons_zero, List.set_cons_succ, i64_w, i32_w]
                        rfl
                      refine pure_ (i := 6) (N := some 69) (v := ?_) (a' := ?_) #[true, true, true, true, true, true, true, false, true, true, true, true, true, false, false, false, false, false] rfl rfl (any_of HT_.out (by kernel_rfl)) (fun _ _ _ h => h) (Or.inl ⟨by rfl, ?_⟩) ?_ ?_
                      rotate_left
                      · intro w'
                        go_simp
                        with_reducible rfl
                      rotate_left
                      · simp only [Act.put, List.setIfInBounds_toArray, List.set_cons_zero, List.set_cons_succ, i64_w, i32_w]
                        rfl
                      refine take_ (i := 13) (N := some 76) (v := ?_) (a' := ?_) #[true, true, true, true, true, true, true, false, true, true, true, true, true, true, false, false, false, false] rfl rfl (take_ofW HT_.out HW_.out (by kernel_rfl)) (fun _ _ _ h => h) (Or.inl ⟨by rfl, ?_⟩) hHeld ?_ ?_
                      rotate_left
                      · rintro w' ⟨s0, s1, s2, s3⟩
                        go_simp
                        with_reducible rfl
                      rotate_left
                      · simp only [Act.put, List.setIfInBounds_toArray, List.set_cons_zero, List.set_cons_succ, i64_w, i32_w]
                        rfl
                      refine pure_ (i := 14) (N := some 77) (v := ?_) (a' := ?_) #[true, true, true, true, true, true, true, false, true, true, true, true, true, true, true, false, false, false] rfl rfl (any_of HT_.out (by kernel_rfl)) (fun _ _ _ h => h) (Or.inl ⟨by rfl, ?_⟩) ?_ ?_
                      rotate_left
                      · intro w'
                        go_simp
                        with_reducible rfl
                      rotate_left
                      · simp only [Act.put, List.setIfInBounds_toArray, List.set_cons_zero, List.set_cons_succ, i64_w, i32_w]
                        rfl
                      refine one_ (i := 7) (N := some 70) #[true, true, true, true, true, true, true, true, true, true, true, true, true, true, true, false, false, false] rfl rfl (one_of HT_.out (by kernel_rfl)) (by decide) (fun K hK => ?_)
                      refine goes_ Try.func21 (by kernel_rfl) rfl #[.pointer (some ⟨g106, 0, none⟩), .int .u64 (IntKind.u64.wrap ((rd_T48 l1 x7_2).f1))] (by rfl) rfl rfl (by (try simp only [List.map_toArray, List.map_cons, List.map_nil]); first | done | rfl | (simp only [List.length_drop, List.length_take]; rfl)) ?_
                      with_reducible refine (wire_Reader_Num.calls g106 t103 x107001_2 x107002_2 (IntKind.u64.wrap ((rd_T48 l1 x7_2).f1)) t116 t117 t118 w _ ?side1 ?side2 A19.out).mono ?_
                      (case side1 => repeat (first | (with_reducible first | exact HI106.out | apply IsS57.alloc | apply IsS57.drewN | apply IsS57.drew) | exact HI106.out))
                      (case side2 => repeat (first | (with_reducible first | exact HB.out | apply below_alloc | apply pw_below_drewN | apply below_drew1 | refine below_set ?_ (IsS57.ge HI106.out) | refine below_set ?_ (IsS46.ge HI110.out)) | exact HB.out))
                      rintro e w22 ⟨rfl, hi, hb, hk⟩
                      refine ⟨_, rfl, ?_⟩
                      have n0_ := Aside0.mk (IsS46.kept (show IsS46 w _ g110 t107 x111001_2 x111002_2 from by repeat (first | (with_reducible first | exact HI110.out | apply IsS46.alloc | apply IsS46.drewN | apply IsS46.drew) | exact HI110.out)) ⟨hk.1, fun i_ hi_ hs_ => hk.2 i_ hi_ hs_ (by simp)⟩ (NB110_106.out))
                      have n1_ := Aside0.mk (hb)
                      have n2_ := Aside0.mk (hi)
                      clear HI110
                      clear HB
                      clear HI106
                      have HI110 := n0_
                      have HB := n1_
                      have HI106 := n2_
                      clear n0_ n1_ n2_
                      (try clear hb)
                      (try clear hb2)
                      (try clear hk)
                      (try clear hi)
                      refine hK.out _ _ ⟨((HB.out.cell (World.block_lt_of_cell? w _ hw115_0)).trans hw115_0), ((HB.out.cell (World.block_lt_of_cell? w _ hw115_1)).trans hw115_1), ((HB.out.cell (World.block_lt_of_cell? w _ hw119_0)).trans hw119_0), ((HB.out.cell (World.block_lt_of_cell? w _ hw119_1)).trans hw119_1)⟩ (fun hHeld => ?_)
                      clear hK K
                      refine norm_ (a' := ?_) ?_ ?_
                      rotate_left
                      · show Act.put _ (some 70) _ = _
                        simp only [Act.put, List.setIfInBounds_toArray, List.set_cons_zero, List.set_cons_succ, i64_w, i32_w]
                        rfl
                      refine one_ (i := 15) (N := some 78) #[true, true, true, true, true, true, true, true, true, true, true, true, true, true, true, true, false, false] rfl rfl (one_of HT_.out (by kernel_rfl)) (by decide) (fun K hK => ?_)
                      refine goes_ Try.func24 (by kernel_rfl) rfl #[.pointer (some ⟨g110, 0, none⟩), .int .u64 (IntKind.u64.wrap ((rd_T48 l1 x7_2).f1))] (by rfl) rfl rfl (by (try simp only [List.map_toArray, List.map_cons, List.map_nil]); first | done | rfl | (simp only [List.length_drop, List.length_take]; rfl)) ?_
                      with_reducible refine (xNum.calls k2 g110 t107 x111001_2 x111002_2 (IntKind.u64.wrap ((rd_T48 l1 x7_2).f1)) t120 t121 t122 w _ ?side1 ?side2 A20.out).mono ?_
                      (case side1 => repeat (first | (with_reducible first | exact HI110.out | apply IsS46.alloc | apply IsS46.drewN | apply IsS46.drew) | exact HI110.out))
                      (case side2 => repeat (first | (with_reducible first | exact HB.out | apply below_alloc | apply pw_below_drewN | apply below_drew1 | refine below_set ?_ (IsS57.ge HI106.out) | refine below_set ?_ (IsS46.ge HI110.out)) | exact HB.out))
                      rintro e w23 ⟨rfl, hi, hb, hk⟩
                      refine ⟨_, rfl, ?_⟩
                      have n0_ := Aside0.mk (keepRd (show IsS57 w _ g106 t103 t117 t118 from by repeat (first | (with_reducible first | exact HI106.out | apply IsS57.alloc | apply IsS57.drewN | apply IsS57.drew) | exact HI106.out)) hk (NB106_110.out))
                      have n1_ := Aside0.mk (hb)
                      have n2_ := Aside0.mk (hi)
                      clear HI106
                      clear HB
                      clear HI110
                      have HI106 := n0_
                      have HB := n1_
                      have HI110 := n2_
                      clear n0_ n1_ n2_
                      (try clear hb)
                      (try clear hb2)
                      (try clear hk.all)
                      (try clear hi)
                      refine hK.out _ _ ⟨((HB.out.cell (World.block_lt_of_cell? w _ hw115_0)).trans hw115_0), ((HB.out.cell (World.block_lt_of_cell? w _ hw115_1)).trans hw115_1), ((HB.out.cell (World.block_lt_of_cell? w _ hw119_0)).trans hw119_0), ((HB.out.cell (World.block_lt_of_cell? w _ hw119_1)).trans hw119_1)⟩ (fun hHeld => ?_)
                      clear hK K
                      refine norm_ (a' := ?_) ?_ ?_
                      rotate_left
                      · show Act.put _ (some 78) _ = _
                        simp only [Act.put, List.setIfInBounds_toArray, List.set_cons_zero, List.set_cons_succ, i64_w, i32_w]
                        rfl
                      refine pure_ (i := 16) (N := some 79) (v := ?_) (a' := ?_) #[true, true, true, true, true, true, true, true, true, true, true, true, true, true, true, true, true, false] rfl rfl (any_of HT_.out (by kernel_rfl)) (fun _ _ _ h => h) (Or.inl ⟨by rfl, ?_⟩) ?_ ?_
                      rotate_left
                      · intro w'
                        go_simp
                        with_reducible rfl
                      rotate_left
                      · simp only [Act.put, List.setIfInBounds_toArray, List.set_cons_zero, List.set_cons_succ, i64_w, i32_w]
                        rfl
                      refine pure_ (i := 17) (N := some 8) (v := ?_) (a' := ?_) #[true, true, true, true, true, true, true, true, true, true, true, true, true, true, true, true, true, true] rfl rfl (any_of HT_.out (by kernel_rfl)) (fun _ _ _ h => h) (Or.inl ⟨by rfl, ?_⟩) ?_ ?_
                      rotate_left
                      · intro w'
                        go_simp
                        with_reducible rfl
                      rotate_left
                      · simp only [Act.put, List.setIfInBounds_toArray, List.set_cons_zero, List.set_cons_succ, i64_w, i32_w]
                        rfl
                      refine done_ (done_of HT_.out (by kernel_rfl)) ?_
                      try go_wp2
                      go_meet
                      case rel => exact ⟨_, ((t116 == t120)), (t117), (t118), (t121), (t122), (by first | rfl | (simp; done) | (simp [*]; done)), H', ⟨by have := HJ4.out; have := HK2.out; first | omega | exact Nat.le_refl _⟩, ⟨by repeat (first | (with_reducible first | exact HI106.out | apply IsS57.alloc | apply IsS57.drewN | apply IsS57.drew) | exact HI106.out)⟩, ⟨by repeat (first | (with_reducible first | exact HI110.out | apply IsS46.alloc | apply IsS46.drewN | apply IsS46.drew) | exact HI110.out)⟩, ⟨by repeat (first | (with_reducible first | exact HB.out | apply below_alloc | apply pw_below_drewN | apply below_drew1 | refine below_set ?_ (IsS57.ge HI106.out) | refine below_set ?_ (IsS46.ge HI110.out)) | exact HB.out)⟩⟩
                    · rw [if_neg c18] at H
                      have c18b0 : (((rd_T48 l1 x7_2).f0) == 0) = false := beq_eq_false_iff_ne.mpr c18
                      have c18b1 : (((rd_T48 l1 x7_2).f0) != 0) = true := bne_iff_ne.mpr c18
                      (first | rw [c18b0] | (simp only [i64_w, i32_w]; rw [c18b0]) | skip)
                      by_cases c24 : ((rd_T48 l1 x7_2).f0) = 1
                      · rw [if_pos c24] at H
                        have c24b0 : (((rd_T48 l1 x7_2).f0) == 1) = true := beq_iff_eq.mpr c24
                        have c24b1 : (((rd_T48 l1 x7_2).f0) != 1) = false := bne_eq_false_iff_eq.mpr c24
                        clear c24
                        replace H := Option.bind_eq_some_iff.mp H
                        obtain ⟨⟨t124, t127, t128⟩, A250, H⟩ := H
                        replace H : ((xRaw.f t107 x111001_2 x111002_2 ((rd_T48 l1 x7_2).f1)).bind fun bt130 => ((tikref_Bytes.f t124 bt130.1).bind fun t135 => (tiklaw2_WireReads.j2 k2 l1 x7_2 t135 t103 t127 t128 t107 bt130.2.1 bt130.2.2))) = some r := H
                        have A25 := Aside0.mk A250
                        clear A250
                        replace H := Option.bind_eq_some_iff.mp H
                        obtain ⟨⟨t130, t133, t134⟩, A260, H⟩ := H
                        replace H : ((tikref_Bytes.f t124 t130).bind fun t135 => (tiklaw2_WireReads.j2 k2 l1 x7_2 t135 t103 t127 t128 t107 t133 t134)) = some r := H
                        have A26 := Aside0.mk A260
                        clear A260
                        replace H := Option.bind_eq_some_iff.mp H
                        obtain ⟨t135, A270, H⟩ := H
                        replace H : (tiklaw2_WireReads.j2 k2 l1 x7_2 t135 t103 t127 t128 t107 t133 t134) = some r := H
                        have A27 := Aside0.mk A270
                        clear A270
                        have H' := Aside0.mk H
                        clear H
                        try go_wp2
                        have n0_ := Aside0.mk (IsS57.drew HI106.out)
                        have n1_ := Aside0.mk (IsS46.drew HI110.out)
                        have n2_ := Aside0.mk (below_drew1 HB.out)
                        clear HI106
                        clear HI110
                        clear HB
                        have HI106 := n0_
                        have HI110 := n1_
                        have HB := n2_
                        clear n0_ n1_ n2_
                        have p123 : 0 ≤ (x7_2 : Int) := of_decide_eq_true (by first | (with_reducible assumption) | assumption)
                        have q123 : x7_2 < (l1.length : Int) := of_decide_eq_true (by first | (with_reducible assumption) | assumption)
                        obtain ⟨ad123, e123, hx123_0, hx123_1⟩ := at_T48 HR1.out x7_2 p123 q123
                        have hw123_1 := hx123_1
                        have hw123_0 := hx123_0
                        obtain rfl : ad114 = ad123 := (by injection e123)
                        replace hx123_0 := (HB.out.cell (World.block_lt_of_cell? w _ hx123_0)).trans hx123_0
                        replace hx123_1 := (HB.out.cell (World.block_lt_of_cell? w _ hx123_1)).trans hx123_1
                        replace p123 := eq_true p123
                        replace q123 := eq_true q123
                        have p129 : 0 ≤ (x7_2 : Int) := of_decide_eq_true (by first | (with_reducible assumption) | assumption)
                        have q129 : x7_2 < (l1.length : Int) := of_decide_eq_true (by first | (with_reducible assumption) | assumption)
                        obtain ⟨ad129, e129, hx129_0, hx129_1⟩ := at_T48 HR1.out x7_2 p129 q129
                        have hw129_1 := hx129_1
                        have hw129_0 := hx129_0
                        obtain rfl : ad114 = ad129 := (by injection e129)
                        replace hx129_0 := (HB.out.cell (World.block_lt_of_cell? w _ hx129_0)).trans hx129_0
                        replace hx129_1 := (HB.out.cell (World.block_lt_of_cell? w _ hx129_1)).trans hx129_1
                        replace p129 := eq_true p129
                        replace q129 := eq_true q129
                        refine start_ (n := 16) (S := fun w' => w'.cell? (ad114.add ((x7_2).toNat * 2)) = some (.int .i64 ((rd_T48 l1 x7_2).f0)) ∧ w'.cell? ⟨(ad114.add ((x7_2).toNat * 2)).block, (ad114.add ((x7_2).toNat * 2)).off + 1, none⟩ = some (.int .i64 ((rd_T48 l1 x7_2).f1)) ∧ w'.cell? (ad114.add ((x7_2).toNat * 2)) = some (.int .i64 ((rd_T48 l1 x7_2).f0)) ∧ w'.cell? ⟨(ad114.add ((x7_2).toNat * 2)).block, (ad114.add ((x7_2).toNat * 2)).off + 1, none⟩ = some (.int .i64 ((rd_T48 l1 x7_2).f1))) (ds := []) #[false, false, false, false, false, false, false, false, false, false, false, false, false, false, false, false] (by kernel_rfl) rfl rfl ⟨((HB.out.cell (World.block_lt_of_cell? w _ hw123_0)).trans hw123_0), ((HB.out.cell (World.block_lt_of_cell? w _ hw123_1)).trans hw123_1), ((HB.out.cell (World.block_lt_of_cell? w _ hw129_0)).trans hw129_0), ((HB.out.cell (World.block_lt_of_cell? w _ hw129_1)).trans hw129_1)⟩ (fun hHeld => ?_); refine with_tabW tiklaw2_WireReads.tab19 tiklaw2_WireReads.bits19 (fun HT_ HW_ => ?_)
                        generalize wr.drew = w28 at HI106 HI110 HB hx123_0 hx123_1 hx129_0 hx129_1 hHeld ⊢
                        refine pure_ (i := 0) (N := some 82) (v := ?_) (a' := ?_) #[true, false, false, false, false, false, false, false, false, false, false, false, false, false, false, false] rfl rfl (any_of HT_.out (by kernel_rfl)) (fun _ _ _ h => h) (Or.inl ⟨by rfl, ?_⟩) ?_ ?_
                        rotate_left
                        · intro w'
                          go_simp
                          with_reducible rfl
                        rotate_left
                        · simp only [Act.put, List.setIfInBounds_toArray, List.set_cons_zero, List.set_cons_succ, i64_w, i32_w]
                          rfl
                        refine pure_ (i := 1) (N := some 83) (v := ?_) (a' := ?_) #[true, true, false, false, false, false, false, false, false, false, false, false, false, false, false, false] rfl rfl (any_of HT_.out (by kernel_rfl)) (fun _ _ _ h => h) (Or.inl ⟨by rfl, ?_⟩) ?_ ?_
                        rotate_left
                        · intro w'
                          go_simp
                          with_reducible rfl
                        rotate_left
                        · simp only [Act.put, List.setIfInBounds_toArray, List.set_cons_zero, List.set_cons_succ, i64_w, i32_w]
                          rfl
                        refine pure_ (i := 2) (N := some 84) (v := ?_) (a' := ?_) #[true, true, true, false, false, false, false, false, false, false, false, false, false, false, false, false] rfl rfl (any_of HT_.out (by kernel_rfl)) (fun _ _ _ h => h) (Or.inl ⟨by rfl, ?_⟩) ?_ ?_
                        rotate_left
                        · intro w'
                          go_simp
                          with_reducible rfl
                        rotate_left
                        · simp only [Act.put, List.setIfInBounds_toArray, List.set_cons_zero, List.set_cons_succ, i64_w, i32_w]
                          rfl
                        refine pure_ (i := 3) (N := some 85) (v := ?_) (a' := ?_) #[true, true, true, true, false, false, false, false, false, false, false, false, false, false, false, false] rfl rfl (any_of HT_.out (by kernel_rfl)) (fun _ _ _ h => h) (Or.inl ⟨by rfl, ?_⟩) ?_ ?_
                        rotate_left
                        · intro w'
                          go_simp
                          with_reducible rfl
                        rotate_left
                        · simp only [Act.put, List.setIfInBounds_toArray, List.set_cons_zero, List.set_cons_succ, i64_w, i32_w]
                          rfl
                        refine pure_ (i := 4) (N := some 86) (v := ?_) (a' := ?_) #[true, true, true, true, true, false, false, false, false, false, false, false, false, false, false, false] rfl rfl (any_of HT_.out (by kernel_rfl)) (fun _ _ _ h => h) (Or.inl ⟨by rfl, ?_⟩) ?_ ?_
                        rotate_left
                        · intro w'
                          go_simp
                          with_reducible rfl
                        rotate_left
                        · simp only [Act.put, List.setIfInBounds_toArray, List.set_cons_zero, List.set_cons_succ, i64_w, i32_w]
                          rfl
                        refine pure_ (i := 7) (N := some 89) (v := ?_) (a' := ?_) #[true, true, true, true, true, false, false, true, false, false, false, false, false, false, false, false] rfl rfl (any_of HT_.out (by kernel_rfl)) (fun _ _ _ h => h) (Or.inl ⟨by rfl, ?_⟩) ?_ ?_
                        rotate_left
                        · intro w'
                          go_simp
                          with_reducible rfl
                        rotate_left
                        · simp only [Act.put, List.setIfInBounds_toArray, List.set_cons_zero, List.set_cons_succ, i64_w, i32_w]
                          rfl
                        refine pure_ (i := 8) (N := some 90) (v := ?_) (a' := ?_) #[true, true, true, true, true, false, false, true, true, false, false, false, false, false, false, false] rfl rfl (any_of HT_.out (by kernel_rfl)) (fun _ _ _ h => h) (Or.inl ⟨by rfl, ?_⟩) ?_ ?_
                        rotate_left
                        · intro w'
                          go_simp
                          with_reducible rfl
                        rotate_left
                        · simp only [Act.put, List.setIfInBounds_toArray, List.set_cons_zero, List.set_cons_succ, i64_w, i32_w]
                          rfl
                        refine pure_ (i := 9) (N := some 91) (v := ?_) (a' := ?_) #[true, true, true, true, true, false, false, true, true, true, false, false, false, false, false, false] rfl rfl (any_of HT_.out (by kernel_rfl)) (fun _ _ _ h => h) (Or.inl ⟨by rfl, ?_⟩) ?_ ?_
                        rotate_left
                        · intro w'
                          go_simp
                          with_reducible rfl
                        rotate_left
                        · simp only [Act.put, List.setIfInBounds_toArray, List.set_cons_zero, List.set_cons_succ, i64_w, i32_w]
                          rfl
                        refine pure_ (i := 10) (N := some 92) (v := ?_) (a' := ?_) #[true, true, true, true, true, false, false, true, true, true, true, false, false, false, false, false] rfl rfl (any_of HT_.out (by kernel_rfl)) (fun _ _ _ h => h) (Or.inl ⟨by rfl, ?_⟩) ?_ ?_
                        rotate_left
                        · intro w'
                          go_simp
                          with_reducible rfl
                        rotate_left
                        · simp only [Act.put, List.setIfInBounds_toArray, List.set_cons_zero, List.set_cons_succ, i64_w, i32_w]
                          rfl
                        refine pure_ (i := 11) (N := some 93) (v := ?_) (a' := ?_) #[true, true, true, true, true, false, false, true, true, true, true, true, false, false, false, false] rfl rfl (any_of HT_.out (by kernel_rfl)) (fun _ _ _ h => h) (Or.inl ⟨by rfl, ?_⟩) ?_ ?_
                        rotate_left
                        · intro w'
                          go_simp
                          with_reducible rfl
                        rotate_left
                        · simp only [Act.put, List.setIfInBounds_toArray, List.set_cons_zero, List.set_cons_succ, i64_w, i32_w]
                          rfl
                        refine take_ (i := 5) (N := some 87) (v := ?_) (a' := ?_) #[true, true, true, true, true, true, false, true, true, true, true, true, false, false, false, false] rfl rfl (take_ofW HT_.out HW_.out (by kernel_rfl)) (fun _ _ _ h => h) (Or.inl ⟨by rfl, ?_⟩) hHeld ?_ ?_
                        rotate_left
                        · rintro w' ⟨s0, s1, s2, s3⟩
                          go_simp
                          with_reducible rfl
                        rotate_left
                        · simp only [Act.put, List.setIfInBounds_toArray, List.set_cons_zero, List.set_cons_succ, i64_w, i32_w]
                          rfl
                        refine take_ (i := 12) (N := some 94) (v := ?_) (a' := ?_) #[true, true, true, true, true, true, false, true, true, true, true, true, true, false, false, false] rfl rfl (take_ofW HT_.out HW_.out (by kernel_rfl)) (fun _ _ _ h => h) (Or.inl ⟨by rfl, ?_⟩) hHeld ?_ ?_
                        rotate_left
                        · rintro w' ⟨s0, s1, s2, s3⟩
                          go_simp
                          with_reducible rfl
                        rotate_left
                        · simp only [Act.put, List.setIfInBounds_toArray, List.set_cons_zero, List.set_cons_succ, i64_w, i32_w]
                          rfl
                        refine one_ (i := 6) (N := some 88) #[true, true, true, true, true, true, true, true, true, true, true, true, true, false, false, false] rfl rfl (one_of HT_.out (by kernel_rfl)) (by decide) (fun K hK => ?_)
                        refine goes_ Try.func25 (by kernel_rfl) rfl #[.pointer (some ⟨g106, 0, none⟩), .int .i64 ((rd_T48 l1 x7_2).f1)] (by rfl) rfl rfl (by (try simp only [List.map_toArray, List.map_cons, List.map_nil]); first | done | rfl | (simp only [List.length_drop, List.length_take]; rfl)) ?_
                        with_reducible refine (wire_Reader_Raw.calls g106 t103 x107001_2 x107002_2 ((rd_T48 l1 x7_2).f1) t124 t127 t128 w _ ?side1 ?side2 A25.out).mono ?_
                        (case side1 => repeat (first | (with_reducible first | exact HI106.out | apply IsS57.alloc | apply IsS57.drewN | apply IsS57.drew) | exact HI106.out))
                        (case side2 => repeat (first | (with_reducible first | exact HB.out | apply below_alloc | apply pw_below_drewN | apply below_drew1 | refine below_set ?_ (IsS57.ge HI106.out) | refine below_set ?_ (IsS46.ge HI110.out)) | exact HB.out))
                        rintro e w29 ⟨v125, rfl, ho0, hi, hb, hk⟩
                        refine ⟨_, rfl, ?_⟩
                        have n0_ := Aside0.mk (IsS46.kept (show IsS46 w _ g110 t107 x111001_2 x111002_2 from by repeat (first | (with_reducible first | exact HI110.out | apply IsS46.alloc | apply IsS46.drewN | apply IsS46.drew) | exact HI110.out)) ⟨hk.1, fun i_ hi_ hs_ => hk.2 i_ hi_ hs_ (by simp)⟩ (NB110_106.out))
                        have n1_ := Aside0.mk (Kd.R_lower ho0 (below_size (by repeat (first | (with_reducible first | exact HB.out | apply below_alloc | apply pw_below_drewN | apply below_drew1 | refine below_set ?_ (IsS57.ge HI106.out) | refine below_set ?_ (IsS46.ge HI110.out)) | exact HB.out))))
                        have n2_ := Aside0.mk (hb)
                        have n3_ := Aside0.mk (hi)
                        clear HI110
                        clear HB
                        clear HI106
                        have HI110 := n0_
                        have HO126 := n1_
                        have HB := n2_
                        have HI106 := n3_
                        clear n0_ n1_ n2_ n3_
                        (try clear hb)
                        (try clear hb2)
                        (try clear hk)
                        (try clear hi)
                        (try clear ho0)
                        refine hK.out _ _ ⟨((HB.out.cell (World.block_lt_of_cell? w _ hw123_0)).trans hw123_0), ((HB.out.cell (World.block_lt_of_cell? w _ hw123_1)).trans hw123_1), ((HB.out.cell (World.block_lt_of_cell? w _ hw129_0)).trans hw129_0), ((HB.out.cell (World.block_lt_of_cell? w _ hw129_1)).trans hw129_1)⟩ (fun hHeld => ?_)
                        clear hK K
                        refine norm_ (a' := ?_) ?_ ?_
                        rotate_left
                        · show Act.put _ (some 88) _ = _
                          simp only [Act.put, List.setIfInBounds_toArray, List.set_cons_zero, List.set_cons_succ, i64_w, i32_w]
                          rfl
                        refine one_ (i := 13) (N := some 95) #[true, true, true, true, true, true, true, true, true, true, true, true, true, true, false, false] rfl rfl (one_of HT_.out (by kernel_rfl)) (by decide) (fun K hK => ?_)
                        refine goes_ Try.func26 (by kernel_rfl) rfl #[.pointer (some ⟨g110, 0, none⟩), .int .i64 ((rd_T48 l1 x7_2).f1)] (by rfl) rfl rfl (by (try simp only [List.map_toArray, List.map_cons, List.map_nil]); first | done | rfl | (simp only [List.length_drop, List.length_take]; rfl)) ?_
                        with_reducible refine (xRaw.calls g110 t107 x111001_2 x111002_2 ((rd_T48 l1 x7_2).f1) t130 t133 t134 w _ ?side1 ?side2 A26.out).mono ?_
                        (case side1 => repeat (first | (with_reducible first | exact HI110.out | apply IsS46.alloc | apply IsS46.drewN | apply IsS46.drew) | exact HI110.out))
                        (case side2 => repeat (first | (with_reducible first | exact HB.out | apply below_alloc | apply pw_below_drewN | apply below_drew1 | refine below_set ?_ (IsS57.ge HI106.out) | refine below_set ?_ (IsS46.ge HI110.out)) | exact HB.out))
                        rintro e w30 ⟨v131, rfl, ho0, hi, hb, hk⟩
                        refine ⟨_, rfl, ?_⟩
                        have n0_ := Aside0.mk (keepRd (show IsS57 w _ g106 t103 t127 t128 from by repeat (first | (with_reducible first | exact HI106.out | apply IsS57.alloc | apply IsS57.drewN | apply IsS57.drew) | exact HI106.out)) hk (NB106_110.out))
                        have n1_ := Aside0.mk (Kd.R_mono (Kd.R_told (Kd.R_oldK (IsS46.apart (show IsS46 w _ g110 t107 x111001_2 x111002_2 from by repeat (first | (with_reducible first | exact HI110.out | apply IsS46.alloc | apply IsS46.drewN | apply IsS46.drew) | exact HI110.out)) (by (with_reducible repeat (first | apply Kd.R_alloc | apply Kd.R_drewN | apply Kd.R_drew)); exact HO126.out) (by decide)) hk.all) (Kd.R_base ho0)) (fun _ h_ => h_.1))
                        have n2_ := Aside0.mk (Kd.R_lower (Kd.R_new' ho0 (Kd.R_lt (by (with_reducible repeat (first | apply Kd.R_alloc | apply Kd.R_drewN | apply Kd.R_drew)); exact HO126.out))) (below_size (by repeat (first | (with_reducible first | exact HB.out | apply below_alloc | apply pw_below_drewN | apply below_drew1 | refine below_set ?_ (IsS57.ge HI106.out) | refine below_set ?_ (IsS46.ge HI110.out)) | exact HB.out))))
                        have n3_ := Aside0.mk (hb)
                        have n4_ := Aside0.mk (hi)
                        clear HI106
                        clear HO126
                        clear HB
                        clear HI110
                        have HI106 := n0_
                        have HO126 := n1_
                        have HO132 := n2_
                        have HB := n3_
                        have HI110 := n4_
                        clear n0_ n1_ n2_ n3_ n4_
                        (try clear hb)
                        (try clear hb2)
                        (try clear hk.all)
                        (try clear hi)
                        (try clear ho0)
                        obtain ⟨Ao31, co31, eo31⟩ := Kd.R_slice HO126.out
                        (first | subst eo31 | (injection eo31 with f1_ f2_ f3_; have f4_ := f1_.symm; have f5_ := f3_.symm; clear f1_ f2_ f3_; subst f4_; subst f5_))
                        obtain ⟨Ao32, co32, eo32⟩ := Kd.R_slice HO132.out
                        (first | subst eo32 | (injection eo32 with f1_ f2_ f3_; have f4_ := f1_.symm; have f5_ := f3_.symm; clear f1_ f2_ f3_; subst f4_; subst f5_))
                        refine hK.out _ _ ⟨((HB.out.cell (World.block_lt_of_cell? w _ hw123_0)).trans hw123_0), ((HB.out.cell (World.block_lt_of_cell? w _ hw123_1)).trans hw123_1), ((HB.out.cell (World.block_lt_of_cell? w _ hw129_0)).trans hw129_0), ((HB.out.cell (World.block_lt_of_cell? w _ hw129_1)).trans hw129_1)⟩ (fun hHeld => ?_)
                        clear hK K
                        refine norm_ (a' := ?_) ?_ ?_
                        rotate_left
                        · show Act.put _ (some 95) _ = _
                          simp only [Act.put, List.setIfInBounds_toArray, List.set_cons_zero, List.set_cons_succ, i64_w, i32_w]
                          rfl
                        refine one_ (i := 14) (N := some 96) #[true, true, true, true, true, true, true, true, true, true, true, true, true, true, true, false] rfl rfl (one_of HT_.out (by kernel_rfl)) (by decide) (fun K hK => ?_)
                        refine goes_ Try.func12 (by kernel_rfl) rfl #[.slice Ao31 t124.length co31, .slice Ao32 t130.length co32] (by rfl) rfl rfl (by (try simp only [List.map_toArray, List.map_cons, List.map_nil]); first | done | rfl | (simp only [List.length_drop, List.length_take]; rfl)) ?_
                        with_reducible refine (tikref_Bytes.calls _ _ t124 _ _ t130 t135 _ ?side1 ?side2 ?side3 ?side4 A27.out).mono ?_
                        (case side1 => repeat (first | exact (Kd.R_reads' HO126.out).2.2 | (with_reducible refine Kd.C_alloc ?_ _) | (with_reducible refine Kd.C_drewN ?_ _) | (with_reducible refine Kd.C_drew ?_)))
                        (case side2 => exact (Kd.R_reads' HO126.out).2.1)
                        (case side3 => repeat (first | exact (Kd.R_reads' HO132.out).2.2 | (with_reducible refine Kd.C_alloc ?_ _) | (with_reducible refine Kd.C_drewN ?_ _) | (with_reducible refine Kd.C_drew ?_)))
                        (case side4 => exact (Kd.R_reads' HO132.out).2.1)
                        rintro e w' ⟨rfl, ⟨nd, rfl⟩⟩
                        refine ⟨_, rfl, ?_⟩
                        refine hK.out _ _ ⟨((HB.out.cell (World.block_lt_of_cell? w _ hw123_0)).trans hw123_0), ((HB.out.cell (World.block_lt_of_cell? w _ hw123_1)).trans hw123_1), ((HB.out.cell (World.block_lt_of_cell? w _ hw129_0)).trans hw129_0), ((HB.out.cell (World.block_lt_of_cell? w _ hw129_1)).trans hw129_1)⟩ (fun hHeld => ?_)
                        clear hK K
                        refine norm_ (a' := ?_) ?_ ?_
                        rotate_left
                        · show Act.put _ (some 96) _ = _
                          simp only [Act.put, List.setIfInBounds_toArray, List.set_cons_zero, List.set_cons_succ, i64_w, i32_w]
                          rfl
                        refine pure_ (i := 15) (N := some 8) (v := ?_) (a' := ?_) #[true, true, true, true, true, true, true, true, true, true, true, true, true, true, true, true] rfl rfl (any_of HT_.out (by kernel_rfl)) (fun _ _ _ h => h) (Or.inl ⟨by rfl, ?_⟩) ?_ ?_
                        rotate_left
                        · intro w'
                          go_simp
                          with_reducible rfl
                        rotate_left
                        · simp only [Act.put, List.setIfInBounds_toArray, List.set_cons_zero, List.set_cons_succ, i64_w, i32_w]
                          rfl
                        refine done_ (done_of HT_.out (by kernel_rfl)) ?_
                        try go_wp2
                        go_meet
                        case rel => exact ⟨_, (t135), (t127), (t128), (t133), (t134), (by first | rfl | (simp; done) | (simp [*]; done)), H', ⟨by have := HJ4.out; have := HK2.out; first | omega | exact Nat.le_refl _⟩, ⟨by repeat (first | (with_reducible first | exact HI106.out | apply IsS57.alloc | apply IsS57.drewN | apply IsS57.drew) | exact HI106.out)⟩, ⟨by repeat (first | (with_reducible first | exact HI110.out | apply IsS46.alloc | apply IsS46.drewN | apply IsS46.drew) | exact HI110.out)⟩, ⟨by repeat (first | (with_reducible first | exact HB.out | apply below_alloc | apply pw_below_drewN | apply below_drew1 | refine below_set ?_ (IsS57.ge HI106.out) | refine below_set ?_ (IsS46.ge HI110.out)) | exact HB.out)⟩⟩
                      · rw [if_neg c24] at H
                        have c24b0 : (((rd_T48 l1 x7_2).f0) == 1) = false := beq_eq_false_iff_ne.mpr c24
                        have c24b1 : (((rd_T48 l1 x7_2).f0) != 1) = true := bne_iff_ne.mpr c24
                        by_cases c33 : ((rd_T48 l1 x7_2).f1) < 0
                        · rw [if_pos c33] at H
                          have c33b0 : decide (((rd_T48 l1 x7_2).f1) < 0) = true := decide_eq_true c33
                          clear c33
                          replace H := Option.bind_eq_some_iff.mp H
                          obtain ⟨t137, A340, H⟩ := H
                          replace H : (some t137) = some r := H
                          have A34 := Aside0.mk A340
                          clear A340
                          obtain rfl := Option.some.inj H
                          have p136 : 0 ≤ (x7_2 : Int) := of_decide_eq_true (by first | (with_reducible assumption) | assumption)
                          have q136 : x7_2 < (l1.length : Int) := of_decide_eq_true (by first | (with_reducible assumption) | assumption)
                          obtain ⟨ad136, e136, hx136_0, hx136_1⟩ := at_T48 HR1.out x7_2 p136 q136
                          obtain rfl : ad114 = ad136 := (by injection e136)
                          replace hx136_0 := (HB.out.cell (World.block_lt_of_cell? w _ hx136_0)).trans hx136_0
                          replace hx136_1 := (HB.out.cell (World.block_lt_of_cell? w _ hx136_1)).trans hx136_1
                          replace p136 := eq_true p136
                          replace q136 := eq_true q136
                          go_wp2_with (first | ((with_reducible refine gate_callee (f := 9) rfl ?_); refine goesL_ (some 44) rfl rfl Try.func9 (by kernel_rfl) rfl #[] rfl (by (try simp only [List.map_toArray, List.map_cons, List.map_nil]); first | done | rfl | (simp only [List.length_drop, List.length_take]; rfl)) ?_; (with_reducible refine (tiklaw2_first.calls  t137 _ A34.out).mono ?_); rintro e w35 ⟨rfl, hb⟩; refine ⟨_, rfl, ?_⟩; have n0_ := Aside0.mk (IsS57.below (by repeat (first | (with_reducible first | exact HI106.out | apply IsS57.alloc | apply IsS57.drewN | apply IsS57.drew) | exact HI106.out)) hb); have n1_ := Aside0.mk (IsS46.below (by repeat (first | (with_reducible first | exact HI110.out | apply IsS46.alloc | apply IsS46.drewN | apply IsS46.drew) | exact HI110.out)) hb); have n2_ := Aside0.mk (below_step (by repeat (first | (with_reducible first | exact HB.out | apply below_alloc | apply pw_below_drewN | apply below_drew1 | refine below_set ?_ (IsS57.ge HI106.out) | refine below_set ?_ (IsS46.ge HI110.out)) | exact HB.out)) hb); clear HI106; clear HI110; clear HB; have HI106 := n0_; have HI110 := n1_; have HB := n2_; clear n0_ n1_ n2_; (try clear hb); (try clear hb2); (try clear hk); (try clear hi)))
                          go_ret
                          exact ⟨by first | rfl | (simp [errW_none, errW_some] <;> rfl) | (simp [*, errW_none, errW_some] <;> rfl), by repeat (first | (with_reducible first | exact HB.out | apply below_alloc | apply pw_below_drewN | apply below_drew1 | refine below_set ?_ (IsS57.ge HI106.out) | refine below_set ?_ (IsS46.ge HI110.out)) | exact HB.out)⟩
                        · rw [if_neg c33] at H
                          have c33b0 : decide (((rd_T48 l1 x7_2).f1) < 0) = false := decide_eq_false c33
                          clear c33
                          replace H := Option.bind_eq_some_iff.mp H
                          obtain ⟨⟨t139, t140, t141⟩, A360, H⟩ := H
                          replace H : ((xText.f k2 t107 x111001_2 x111002_2 (IntKind.u64.wrap ((rd_T48 l1 x7_2).f1))).bind fun bt143 => (tiklaw2_WireReads.j2 k2 l1 x7_2 (t139.toList == bt143.1.toList) t103 t140 t141 t107 bt143.2.1 bt143.2.2)) = some r := H
                          have A36 := Aside0.mk A360
                          clear A360
                          replace H := Option.bind_eq_some_iff.mp H
                          obtain ⟨⟨t143, t144, t145⟩, A370, H⟩ := H
                          replace H : (tiklaw2_WireReads.j2 k2 l1 x7_2 (t139.toList == t143.toList) t103 t140 t141 t107 t144 t145) = some r := H
                          have A37 := Aside0.mk A370
                          clear A370
                          have H' := Aside0.mk H
                          clear H
                          have p136 : 0 ≤ (x7_2 : Int) := of_decide_eq_true (by first | (with_reducible assumption) | assumption)
                          have q136 : x7_2 < (l1.length : Int) := of_decide_eq_true (by first | (with_reducible assumption) | assumption)
                          obtain ⟨ad136, e136, hx136_0, hx136_1⟩ := at_T48 HR1.out x7_2 p136 q136
                          obtain rfl : ad114 = ad136 := (by injection e136)
                          replace hx136_0 := (HB.out.cell (World.block_lt_of_cell? w _ hx136_0)).trans hx136_0
                          replace hx136_1 := (HB.out.cell (World.block_lt_of_cell? w _ hx136_1)).trans hx136_1
                          replace p136 := eq_true p136
                          replace q136 := eq_true q136
                          try go_wp2
                          have n0_ := Aside0.mk (IsS57.drew HI106.out)
                          have n1_ := Aside0.mk (IsS46.drew HI110.out)
                          have n2_ := Aside0.mk (below_drew1 HB.out)
                          clear HI106
                          clear HI110
                          clear HB
                          have HI106 := n0_
                          have HI110 := n1_
                          have HB := n2_
                          clear n0_ n1_ n2_
                          have p138 : 0 ≤ (x7_2 : Int) := of_decide_eq_true (by first | (with_reducible assumption) | assumption)
                          have q138 : x7_2 < (l1.length : Int) := of_decide_eq_true (by first | (with_reducible assumption) | assumption)
                          obtain ⟨ad138, e138, hx138_0, hx138_1⟩ := at_T48 HR1.out x7_2 p138 q138
                          have hw138_1 := hx138_1
                          have hw138_0 := hx138_0
                          obtain rfl : ad114 = ad138 := (by injection e138)
                          replace hx138_0 := (HB.out.cell (World.block_lt_of_cell? w _ hx138_0)).trans hx138_0
                          replace hx138_1 := (HB.out.cell (World.block_lt_of_cell? w _ hx138_1)).trans hx138_1
                          replace p138 := eq_true p138
                          replace q138 := eq_true q138
                          have p142 : 0 ≤ (x7_2 : Int) := of_decide_eq_true (by first | (with_reducible assumption) | assumption)
                          have q142 : x7_2 < (l1.length : Int) := of_decide_eq_true (by first | (with_reducible assumption) | assumption)
                          obtain ⟨ad142, e142, hx142_0, hx142_1⟩ := at_T48 HR1.out x7_2 p142 q142
                          have hw142_1 := hx142_1
                          have hw142_0 := hx142_0
                          obtain rfl : ad114 = ad142 := (by injection e142)
                          replace hx142_0 := (HB.out.cell (World.block_lt_of_cell? w _ hx142_0)).trans hx142_0
                          replace hx142_1 := (HB.out.cell (World.block_lt_of_cell? w _ hx142_1)).trans hx142_1
                          replace p142 := eq_true p142
                          replace q142 := eq_true q142
                          refine start_ (n := 17) (S := fun w' => w'.cell? (ad114.add ((x7_2).toNat * 2)) = some (.int .i64 ((rd_T48 l1 x7_2).f0)) ∧ w'.cell? ⟨(ad114.add ((x7_2).toNat * 2)).block, (ad114.add ((x7_2).toNat * 2)).off + 1, none⟩ = some (.int .i64 ((rd_T48 l1 x7_2).f1)) ∧ w'.cell? (ad114.add ((x7_2).toNat * 2)) = some (.int .i64 ((rd_T48 l1 x7_2).f0)) ∧ w'.cell? ⟨(ad114.add ((x7_2).toNat * 2)).block, (ad114.add ((x7_2).toNat * 2)).off + 1, none⟩ = some (.int .i64 ((rd_T48 l1 x7_2).f1))) (ds := []) #[false, false, false, false, false, false, false, false, false, false, false, false, false, false, false, false, false] (by kernel_rfl) rfl rfl ⟨((HB.out.cell (World.block_lt_of_cell? w _ hw138_0)).trans hw138_0), ((HB.out.cell (World.block_lt_of_cell? w _ hw138_1)).trans hw138_1), ((HB.out.cell (World.block_lt_of_cell? w _ hw142_0)).trans hw142_0), ((HB.out.cell (World.block_lt_of_cell? w _ hw142_1)).trans hw142_1)⟩ (fun hHeld => ?_); refine with_tabW tiklaw2_WireReads.tab15 tiklaw2_WireReads.bits15 (fun HT_ HW_ => ?_)
                          generalize wr.drew = w38 at HI106 HI110 HB hx138_0 hx138_1 hx142_0 hx142_1 hHeld ⊢
                          refine pure_ (i := 0) (N := some 45) (v := ?_) (a' := ?_) #[true, false, false, false, false, false, false, false, false, false, false, false, false, false, false, false, false] rfl rfl (any_of HT_.out (by kernel_rfl)) (fun _ _ _ h => h) (Or.inl ⟨by rfl, ?_⟩) ?_ ?_
                          rotate_left
                          · intro w'
                            go_simp
                            with_reducible rfl
                          rotate_left
                          · simp only [Act.put, List.setIfInBounds_toArray, List.set_cons_zero, List.set_cons_succ, i64_w, i32_w]
                            rfl
                          refine pure_ (i := 1) (N := some 46) (v := ?_) (a' := ?_) #[true, true, false, false, false, false, false, false, false, false, false, false, false, false, false, false, false] rfl rfl (any_of HT_.out (by kernel_rfl)) (fun _ _ _ h => h) (Or.inl ⟨by rfl, ?_⟩) ?_ ?_
                          rotate_left
                          · intro w'
                            go_simp
                            with_reducible rfl
                          rotate_left
                          · simp only [Act.put, List.setIfInBounds_toArray, List.set_cons_zero, List.set_cons_succ, i64_w, i32_w]
                            rfl
                          refine pure_ (i := 2) (N := some 47) (v := ?_) (a' := ?_) #[true, true, true, false, false, false, false, false, false, false, false, false, false, false, false, false, false] rfl rfl (any_of HT_.out (by kernel_rfl)) (fun _ _ _ h => h) (Or.inl ⟨by rfl, ?_⟩) ?_ ?_
                          rotate_left
                          · intro w'
                            go_simp
                            with_reducible rfl
                          rotate_left
                          · simp only [Act.put, List.setIfInBounds_toArray, List.set_cons_zero, List.set_cons_succ, i64_w, i32_w]
                            rfl
                          refine pure_ (i := 3) (N := some 48) (v := ?_) (a' := ?_) #[true, true, true, true, false, false, false, false, false, false, false, false, false, false, false, false, false] rfl rfl (any_of HT_.out (by kernel_rfl)) (fun _ _ _ h => h) (Or.inl ⟨by rfl, ?_⟩) ?_ ?_
                          rotate_left
                          · intro w'
                            go_simp
                            with_reducible rfl
                          rotate_left
                          · simp only [Act.put, List.setIfInBounds_toArray, List.set_cons_zero, List.set_cons_succ, i64_w, i32_w]
                            rfl
                          refine pure_ (i := 4) (N := some 49) (v := ?_) (a' := ?_) #[true, true, true, true, true, false, false, false, false, false, false, false, false, false, false, false, false] rfl rfl (any_of HT_.out (by kernel_rfl)) (fun _ _ _ h => h) (Or.inl ⟨by rfl, ?_⟩) ?_ ?_
                          rotate_left
                          · intro w'
                            go_simp
                            with_reducible rfl
                          rotate_left
                          · simp only [Act.put, List.setIfInBounds_toArray, List.set_cons_zero, List.set_cons_succ, i64_w, i32_w]
                            rfl
                          refine pure_ (i := 7) (N := some 52) (v := ?_) (a' := ?_) #[true, true, true, true, true, false, false, true, false, false, false, false, false, false, false, false, false] rfl rfl (any_of HT_.out (by kernel_rfl)) (fun _ _ _ h => h) (Or.inl ⟨by rfl, ?_⟩) ?_ ?_
                          rotate_left
                          · intro w'
                            go_simp
                            with_reducible rfl
                          rotate_left
                          · simp only [Act.put, List.setIfInBounds_toArray, List.set_cons_zero, List.set_cons_succ, i64_w, i32_w]
                            rfl
                          refine pure_ (i := 8) (N := some 53) (v := ?_) (a' := ?_) #[true, true, true, true, true, false, false, true, true, false, false, false, false, false, false, false, false] rfl rfl (any_of HT_.out (by kernel_rfl)) (fun _ _ _ h => h) (Or.inl ⟨by rfl, ?_⟩) ?_ ?_
                          rotate_left
                          · intro w'
                            go_simp
                            with_reducible rfl
                          rotate_left
                          · simp only [Act.put, List.setIfInBounds_toArray, List.set_cons_zero, List.set_cons_succ, i64_w, i32_w]
                            rfl
                          refine pure_ (i := 9) (N := some 54) (v := ?_) (a' := ?_) #[true, true, true, true, true, false, false, true, true, true, false, false, false, false, false, false, false] rfl rfl (any_of HT_.out (by kernel_rfl)) (fun _ _ _ h => h) (Or.inl ⟨by rfl, ?_⟩) ?_ ?_
                          rotate_left
                          · intro w'
                            go_simp
                            with_reducible rfl
                          rotate_left
                          · simp only [Act.put, List.setIfInBounds_toArray, List.set_cons_zero, List.set_cons_succ, i64_w, i32_w]
                            rfl
                          refine pure_ (i := 10) (N := some 55) (v := ?_) (a' := ?_) #[true, true, true, true, true, false, false, true, true, true, true, false, false, false, false, false, false] rfl rfl (any_of HT_.out (by kernel_rfl)) (fun _ _ _ h => h) (Or.inl ⟨by rfl, ?_⟩) ?_ ?_
                          rotate_left
                          · intro w'
                            go_simp
                            with_reducible rfl
                          rotate_left
                          · simp only [Act.put, List.setIfInBounds_toArray, List.set_cons_zero, List.set_cons_succ, i64_w, i32_w]
                            rfl
                          refine pure_ (i := 11) (N := some 56) (v := ?_) (a' := ?_) #[true, true, true, true, true, false, false, true, true, true, true, true, false, false, false, false, false] rfl rfl (any_of HT_.out (by kernel_rfl)) (fun _ _ _ h => h) (Or.inl ⟨by rfl, ?_⟩) ?_ ?_
                          rotate_left
                          · intro w'
                            go_simp
                            with_reducible rfl
                          rotate_left
                          · simp only [Act.put, List.setIfInBounds_toArray, List.set_cons_zero, List.set_cons_succ, i64_w, i32_w]
                            rfl
                          refine take_ (i := 5) (N := some 50) (v := ?_) (a' := ?_) #[true, true, true, true, true, true, false, true, true, true, true, true, false, false, false, false, false] rfl rfl (take_ofW HT_.out HW_.out (by kernel_rfl)) (fun _ _ _ h => h) (Or.inl ⟨by rfl, ?_⟩) hHeld ?_ ?_
                          rotate_left
                          · rintro w' ⟨s0, s1, s2, s3⟩
                            go_simp
                            with_reducible rfl
                          rotate_left
                          · simp only [Act.put, List.setIfInBounds_toArray, List.set_cons_zero, List.set_cons_succ, i64_w, i32_w]
                            rfl
                          refine take_ (i := 12) (N := some 57) (v := ?_) (a' := ?_) #[true, true, true, true, true, true, false, true, true, true, true, true, true, false, false, false, false] rfl rfl (take_ofW HT_.out HW_.out (by kernel_rfl)) (fun _ _ _ h => h) (Or.inl ⟨by rfl, ?_⟩) hHeld ?_ ?_
                          rotate_left
                          · rintro w' ⟨s0, s1, s2, s3⟩
                            go_simp
                            with_reducible rfl
                          rotate_left
                          · simp only [Act.put, List.setIfInBounds_toArray, List.set_cons_zero, List.set_cons_succ, i64_w, i32_w]
                            rfl
                          refine pure_ (i := 13) (N := some 58) (v := ?_) (a' := ?_) #[true, true, true, true, true, true, false, true, true, true, true, true, true, true, false, false, false] rfl rfl (any_of HT_.out (by kernel_rfl)) (fun _ _ _ h => h) (Or.inl ⟨by rfl, ?_⟩) ?_ ?_
                          rotate_left
                          · intro w'
                            go_simp
                            with_reducible rfl
                          rotate_left
                          · simp only [Act.put, List.setIfInBounds_toArray, List.set_cons_zero, List.set_cons_succ, i64_w, i32_w]
                            rfl
                          refine one_ (i := 6) (N := some 51) #[true, true, true, true, true, true, true, true, true, true, true, true, true, true, false, false, false] rfl rfl (one_of HT_.out (by kernel_rfl)) (by decide) (fun K hK => ?_)
                          refine goes_ Try.func27 (by kernel_rfl) rfl #[.pointer (some ⟨g106, 0, none⟩), .int .i64 ((rd_T48 l1 x7_2).f1)] (by rfl) rfl rfl (by (try simp only [List.map_toArray, List.map_cons, List.map_nil]); first | done | rfl | (simp only [List.length_drop, List.length_take]; rfl)) ?_
                          with_reducible refine (wire_Reader_Text.calls g106 t103 x107001_2 x107002_2 ((rd_T48 l1 x7_2).f1) t139 t140 t141 w _ ?side1 ?side2 A36.out).mono ?_
                          (case side1 => repeat (first | (with_reducible first | exact HI106.out | apply IsS57.alloc | apply IsS57.drewN | apply IsS57.drew) | exact HI106.out))
                          (case side2 => repeat (first | (with_reducible first | exact HB.out | apply below_alloc | apply pw_below_drewN | apply below_drew1 | refine below_set ?_ (IsS57.ge HI106.out) | refine below_set ?_ (IsS46.ge HI110.out)) | exact HB.out))
                          rintro e w39 ⟨rfl, hi, hb, hk⟩
                          refine ⟨_, rfl, ?_⟩
                          have n0_ := Aside0.mk (IsS46.kept (show IsS46 w _ g110 t107 x111001_2 x111002_2 from by repeat (first | (with_reducible first | exact HI110.out | apply IsS46.alloc | apply IsS46.drewN | apply IsS46.drew) | exact HI110.out)) ⟨hk.1, fun i_ hi_ hs_ => hk.2 i_ hi_ hs_ (by simp)⟩ (NB110_106.out))
                          have n1_ := Aside0.mk (hb)
                          have n2_ := Aside0.mk (hi)
                          clear HI110
                          clear HB
                          clear HI106
                          have HI110 := n0_
                          have HB := n1_
                          have HI106 := n2_
                          clear n0_ n1_ n2_
                          (try clear hb)
                          (try clear hb2)
                          (try clear hk)
                          (try clear hi)
                          refine hK.out _ _ ⟨((HB.out.cell (World.block_lt_of_cell? w _ hw138_0)).trans hw138_0), ((HB.out.cell (World.block_lt_of_cell? w _ hw138_1)).trans hw138_1), ((HB.out.cell (World.block_lt_of_cell? w _ hw142_0)).trans hw142_0), ((HB.out.cell (World.block_lt_of_cell? w _ hw142_1)).trans hw142_1)⟩ (fun hHeld => ?_)
                          clear hK K
                          refine norm_ (a' := ?_) ?_ ?_
                          rotate_left
                          · show Act.put _ (some 51) _ = _
                            simp only [Act.put, List.setIfInBounds_toArray, List.set_cons_zero, List.set_cons_succ, i64_w, i32_w]
                            rfl
                          refine one_ (i := 14) (N := some 59) #[true, true, true, true, true, true, true, true, true, true, true, true, true, true, true, false, false] rfl rfl (one_of HT_.out (by kernel_rfl)) (by decide) (fun K hK => ?_)
                          refine goes_ Try.func28 (by kernel_rfl) rfl #[.pointer (some ⟨g110, 0, none⟩), .int .u64 (IntKind.u64.wrap ((rd_T48 l1 x7_2).f1))] (by rfl) rfl rfl (by (try simp only [List.map_toArray, List.map_cons, List.map_nil]); first | done | rfl | (simp only [List.length_drop, List.length_take]; rfl)) ?_
                          with_reducible refine (xText.calls k2 g110 t107 x111001_2 x111002_2 (IntKind.u64.wrap ((rd_T48 l1 x7_2).f1)) t143 t144 t145 w _ ?side1 ?side2 A37.out).mono ?_
                          (case side1 => repeat (first | (with_reducible first | exact HI110.out | apply IsS46.alloc | apply IsS46.drewN | apply IsS46.drew) | exact HI110.out))
                          (case side2 => repeat (first | (with_reducible first | exact HB.out | apply below_alloc | apply pw_below_drewN | apply below_drew1 | refine below_set ?_ (IsS57.ge HI106.out) | refine below_set ?_ (IsS46.ge HI110.out)) | exact HB.out))
                          rintro e w40 ⟨rfl, hi, hb, hk⟩
                          refine ⟨_, rfl, ?_⟩
                          have n0_ := Aside0.mk (keepRd (show IsS57 w _ g106 t103 t140 t141 from by repeat (first | (with_reducible first | exact HI106.out | apply IsS57.alloc | apply IsS57.drewN | apply IsS57.drew) | exact HI106.out)) hk (NB106_110.out))
                          have n1_ := Aside0.mk (hb)
                          have n2_ := Aside0.mk (hi)
                          clear HI106
                          clear HB
                          clear HI110
                          have HI106 := n0_
                          have HB := n1_
                          have HI110 := n2_
                          clear n0_ n1_ n2_
                          (try clear hb)
                          (try clear hb2)
                          (try clear hk.all)
                          (try clear hi)
                          refine hK.out _ _ ⟨((HB.out.cell (World.block_lt_of_cell? w _ hw138_0)).trans hw138_0), ((HB.out.cell (World.block_lt_of_cell? w _ hw138_1)).trans hw138_1), ((HB.out.cell (World.block_lt_of_cell? w _ hw142_0)).trans hw142_0), ((HB.out.cell (World.block_lt_of_cell? w _ hw142_1)).trans hw142_1)⟩ (fun hHeld => ?_)
                          clear hK K
                          refine norm_ (a' := ?_) ?_ ?_
                          rotate_left
                          · show Act.put _ (some 59) _ = _
                            simp only [Act.put, List.setIfInBounds_toArray, List.set_cons_zero, List.set_cons_succ, i64_w, i32_w]
                            rfl
                          refine pure_ (i := 15) (N := some 60) (v := ?_) (a' := ?_) #[true, true, true, true, true, true, true, true, true, true, true, true, true, true, true, true, false] rfl rfl (any_of HT_.out (by kernel_rfl)) (fun _ _ _ h => h) (Or.inl ⟨by rfl, ?_⟩) ?_ ?_
                          rotate_left
                          · intro w'
                            go_simp
                            with_reducible rfl
                          rotate_left
                          · simp only [Act.put, List.setIfInBounds_toArray, List.set_cons_zero, List.set_cons_succ, i64_w, i32_w]
                            rfl
                          refine pure_ (i := 16) (N := some 8) (v := ?_) (a' := ?_) #[true, true, true, true, true, true, true, true, true, true, true, true, true, true, true, true, true] rfl rfl (any_of HT_.out (by kernel_rfl)) (fun _ _ _ h => h) (Or.inl ⟨by rfl, ?_⟩) ?_ ?_
                          rotate_left
                          · intro w'
                            go_simp
                            with_reducible rfl
                          rotate_left
                          · simp only [Act.put, List.setIfInBounds_toArray, List.set_cons_zero, List.set_cons_succ, i64_w, i32_w]
                            rfl
                          refine done_ (done_of HT_.out (by kernel_rfl)) ?_
                          try go_wp2
                          go_meet
                          case rel => exact ⟨_, ((t139.toList == t143.toList)), (t140), (t141), (t144), (t145), (by first | rfl | (simp; done) | (simp [*]; done)), H', ⟨by have := HJ4.out; have := HK2.out; first | omega | exact Nat.le_refl _⟩, ⟨by repeat (first | (with_reducible first | exact HI106.out | apply IsS57.alloc | apply IsS57.drewN | apply IsS57.drew) | exact HI106.out)⟩, ⟨by repeat (first | (with_reducible first | exact HI110.out | apply IsS46.alloc | apply IsS46.drewN | apply IsS46.drew) | exact HI110.out)⟩, ⟨by repeat (first | (with_reducible first | exact HB.out | apply below_alloc | apply pw_below_drewN | apply below_drew1 | refine below_set ?_ (IsS57.ge HI106.out) | refine below_set ?_ (IsS46.ge HI110.out)) | exact HB.out)⟩⟩
                  case rest =>
                    clear HC17
                    try clear c1
                    try clear p1
                    try clear q1
                    try clear hx1
                    try clear c2
                    try clear p2
                    try clear c3
                    try clear c9
                    try clear c12
                    try clear p12
                    try clear q12
                    try clear hx12
                    try clear p13
                    try clear q13
                    try clear hx13
                    try clear p14
                    try clear q14
                    try clear hx14
                    try clear c18
                    try clear c18b0
                    try clear c18b1
                    try clear c21
                    try clear c24
                    try clear c24b0
                    try clear c24b1
                    try clear c25
                    try clear c26
                    try clear c27
                    try clear c28
                    try clear c33
                    try clear c33b0
                    try clear hx123_0
                    try clear hx123_1
                    try clear hx129_0
                    try clear hx129_1
                    try clear hx136_0
                    try clear hx136_1
                    try clear hx138_0
                    try clear hx138_1
                    try clear hx142_0
                    try clear hx142_1
                    try clear p123
                    try clear p129
                    try clear p136
                    try clear p138
                    try clear p142
                    try clear q123
                    try clear q129
                    try clear q136
                    try clear q138
                    try clear q142
                    obtain ⟨kq, x8_16, x107001_16, x107002_16, x111001_16, x111002_16, rfl, HA, HJ16, HI106, HI110, HB⟩ := hcut
                    cases kq with
                    | zero => exact absurd HA.out (by simp [tiklaw2_WireReads.j2])
                    | succ kj16 =>
                      have H := HA.out
                      clear HA
                      simp only [tiklaw2_WireReads.j2] at H
                      by_cases c41 : x8_16 = true
                      · subst c41
                        have H1 : ((kErr.f t103 x107001_16 x107002_16).bind fun t146 => (if t146 = x111002_16 then ((kLeft.f t103 x107001_16 x107002_16).bind fun t147 => ((xLeft.f t107 x111001_16 x111002_16).bind fun t148 => (if t147 = t148 then (tiklaw2_WireReads.l0 kj16 l1 (wrap64 (x7_2 + 1)) t103 x107001_16 x107002_16 t107 x111001_16 x111002_16) else (some false)))) else (some false))) = some r := by rw [if_pos rfl] at H; exact H
                        clear H
                        have H := H1
                        clear H1
                        replace H := Option.bind_eq_some_iff.mp H
                        obtain ⟨t146, A420, H⟩ := H
                        replace H : (if t146 = x111002_16 then ((kLeft.f t103 x107001_16 x107002_16).bind fun t147 => ((xLeft.f t107 x111001_16 x111002_16).bind fun t148 => (if t147 = t148 then (tiklaw2_WireReads.l0 kj16 l1 (wrap64 (x7_2 + 1)) t103 x107001_16 x107002_16 t107 x111001_16 x111002_16) else (some false)))) else (some false)) = some r := H
                        have A42 := Aside0.mk A420
                        clear A420
                        by_cases c43 : t146 = x111002_16
                        · rw [if_pos c43] at H
                          have c43b0 : (t146 == x111002_16) = true := beq_iff_eq.mpr c43
                          have c43b1 : (t146 != x111002_16) = false := bne_eq_false_iff_eq.mpr c43
                          clear c43
                          replace H := Option.bind_eq_some_iff.mp H
                          obtain ⟨t147, A440, H⟩ := H
                          replace H : ((xLeft.f t107 x111001_16 x111002_16).bind fun t148 => (if t147 = t148 then (tiklaw2_WireReads.l0 kj16 l1 (wrap64 (x7_2 + 1)) t103 x107001_16 x107002_16 t107 x111001_16 x111002_16) else (some false))) = some r := H
                          have A44 := Aside0.mk A440
                          clear A440
                          replace H := Option.bind_eq_some_iff.mp H
                          obtain ⟨t148, A450, H⟩ := H
                          replace H : (if t147 = t148 then (tiklaw2_WireReads.l0 kj16 l1 (wrap64 (x7_2 + 1)) t103 x107001_16 x107002_16 t107 x111001_16 x111002_16) else (some false)) = some r := H
                          have A45 := Aside0.mk A450
                          clear A450
                          by_cases c46 : t147 = t148
                          · rw [if_pos c46] at H
                            have c46b0 : (t147 == t148) = true := beq_iff_eq.mpr c46
                            have c46b1 : (t147 != t148) = false := bne_eq_false_iff_eq.mpr c46
                            clear c46
                            have H' := Aside0.mk H
                            clear H
                            try go_wp2
                            have n0_ := Aside0.mk (IsS57.drew HI106.out)
                            have n1_ := Aside0.mk (IsS46.drew HI110.out)
                            have n2_ := Aside0.mk (below_drew1 HB.out)
                            clear HI106
                            clear HI110
                            clear HB
                            have HI106 := n0_
                            have HI110 := n1_
                            have HB := n2_
                            clear n0_ n1_ n2_
                            refine start_ (n := 18) (S := fun w' => w'.cell? ⟨g110, 1, none⟩ = some (.int .i64 x111001_16) ∧ w'.cell? ⟨g110, 2, none⟩ = some (.int .i64 x111002_16)) (ds := []) #[false, false, false, false, false, false, false, false, false, false, false, false, false, false, false, false, false, false] (by kernel_rfl) rfl rfl ⟨cellOf46_1 HI110.out, cellOf46_2 HI110.out⟩ (fun hHeld => ?_); refine with_tabW tiklaw2_WireReads.tab20 tiklaw2_WireReads.bits20 (fun HT_ HW_ => ?_)
                            generalize wc.drew = w47 at HI106 HI110 HB hHeld ⊢
                            refine pure_ (i := 0) (N := some 97) (v := ?_) (a' := ?_) #[true, false, false, false, false, false, false, false, false, false, false, false, false, false, false, false, false, false] rfl rfl (any_of HT_.out (by kernel_rfl)) (fun _ _ _ h => h) (Or.inl ⟨by rfl, ?_⟩) ?_ ?_
                            rotate_left
                            · intro w'
                              go_simp
                              with_reducible rfl
                            rotate_left
                            · simp only [Act.put, List.setIfInBounds_toArray, List.set_cons_zero, List.set_cons_succ, i64_w, i32_w]
                              rfl
                            refine pure_ (i := 1) (N := some 98) (v := ?_) (a' := ?_) #[true, true, false, false, false, false, false, false, false, false, false, false, false, false, false, false, false, false] rfl rfl (any_of HT_.out (by kernel_rfl)) (fun _ _ _ h => h) (Or.inl ⟨by rfl, ?_⟩) ?_ ?_
                            rotate_left
                            · intro w'
                              go_simp
                              with_reducible rfl
                            rotate_left
                            · simp only [Act.put, List.setIfInBounds_toArray, List.set_cons_zero, List.set_cons_succ, i64_w, i32_w]
                              rfl
                            refine pure_ (i := 2) (N := some 99) (v := ?_) (a' := ?_) #[true, true, true, false, false, false, false, false, false, false, false, false, false, false, false, false, false, false] rfl rfl (any_of HT_.out (by kernel_rfl)) (fun _ _ _ h => h) (Or.inl ⟨by rfl, ?_⟩) ?_ ?_
                            rotate_left
                            · intro w'
                              go_simp
                              with_reducible rfl
                            rotate_left
                            · simp only [Act.put, List.setIfInBounds_toArray, List.set_cons_zero, List.set_cons_succ, i64_w, i32_w]
                              rfl
                            refine pure_ (i := 3) (N := some 100) (v := ?_) (a' := ?_) #[true, true, true, true, false, false, false, false, false, false, false, false, false, false, false, false, false, false] rfl rfl (any_of HT_.out (by kernel_rfl)) (fun _ _ _ h => h) (Or.inl ⟨by rfl, ?_⟩) ?_ ?_
                            rotate_left
                            · intro w'
                              go_simp
                              with_reducible rfl
                            rotate_left
                            · simp only [Act.put, List.setIfInBounds_toArray, List.set_cons_zero, List.set_cons_succ, i64_w, i32_w]
                              rfl
                            refine pure_ (i := 5) (N := some 102) (v := ?_) (a' := ?_) #[true, true, true, true, false, true, false, false, false, false, false, false, false, false, false, false, false, false] rfl rfl (any_of HT_.out (by kernel_rfl)) (fun _ _ _ h => h) (Or.inl ⟨by rfl, ?_⟩) ?_ ?_
                            rotate_left
                            · intro w'
                              go_simp
                              with_reducible rfl
                            rotate_left
                            · simp only [Act.put, List.setIfInBounds_toArray, List.set_cons_zero, List.set_cons_succ, i64_w, i32_w]
                              rfl
                            refine pure_ (i := 6) (N := some 103) (v := ?_) (a' := ?_) #[true, true, true, true, false, true, true, false, false, false, false, false, false, false, false, false, false, false] rfl rfl (any_of HT_.out (by kernel_rfl)) (fun _ _ _ h => h) (Or.inl ⟨by rfl, ?_⟩) ?_ ?_
                            rotate_left
                            · intro w'
                              go_simp
                              with_reducible rfl
                            rotate_left
                            · simp only [Act.put, List.setIfInBounds_toArray, List.set_cons_zero, List.set_cons_succ, i64_w, i32_w]
                              rfl
                            refine pure_ (i := 7) (N := some 104) (v := ?_) (a' := ?_) #[true, true, true, true, false, true, true, true, false, false, false, false, false, false, false, false, false, false] rfl rfl (any_of HT_.out (by kernel_rfl)) (fun _ _ _ h => h) (Or.inl ⟨by rfl, ?_⟩) ?_ ?_
                            rotate_left
                            · intro w'
                              go_simp
                              with_reducible rfl
                            rotate_left
                            · simp only [Act.put, List.setIfInBounds_toArray, List.set_cons_zero, List.set_cons_succ, i64_w, i32_w]
                              rfl
                            refine take_ (i := 8) (N := some 105) (v := ?_) (a' := ?_) #[true, true, true, true, false, true, true, true, true, false, false, false, false, false, false, false, false, false] rfl rfl (take_ofW HT_.out HW_.out (by kernel_rfl)) (fun _ _ _ h => h) (Or.inl ⟨by rfl, ?_⟩) hHeld ?_ ?_
                            rotate_left
                            · rintro w' ⟨s0, s1⟩
                              go_simp
                              with_reducible rfl
                            rotate_left
                            · simp only [Act.put, List.setIfInBounds_toArray, List.set_cons_zero, List.set_cons_succ, i64_w, i32_w]
                              rfl
                            refine one_ (i := 4) (N := some 101) #[true, true, true, true, true, true, true, true, true, false, false, false, false, false, false, false, false, false] rfl rfl (one_of HT_.out (by kernel_rfl)) (by decide) (fun K hK => ?_)
                            refine goes_ Try.func23 (by kernel_rfl) rfl #[.pointer (some ⟨g106, 0, none⟩)] (by rfl) rfl rfl (by (try simp only [List.map_toArray, List.map_cons, List.map_nil]); first | done | rfl | (simp only [List.length_drop, List.length_take]; rfl)) ?_
                            with_reducible refine (kErr.calls g106 t103 x107001_16 x107002_16 t146 w _ ?side1 ?side2 A42.out).mono ?_
                            (case side1 => repeat (first | (with_reducible first | exact HI106.out | apply IsS57.alloc | apply IsS57.drewN | apply IsS57.drew) | exact HI106.out))
                            (case side2 => repeat (first | (with_reducible first | exact HB.out | apply below_alloc | apply pw_below_drewN | apply below_drew1 | refine below_set ?_ (IsS57.ge HI106.out) | refine below_set ?_ (IsS46.ge HI110.out)) | exact HB.out))
                            rintro e w48 ⟨rfl, hi, hb, hk⟩
                            refine ⟨_, rfl, ?_⟩
                            have n0_ := Aside0.mk (IsS46.kept (show IsS46 w _ g110 t107 x111001_16 x111002_16 from by repeat (first | (with_reducible first | exact HI110.out | apply IsS46.alloc | apply IsS46.drewN | apply IsS46.drew) | exact HI110.out)) ⟨hk.1, fun i_ hi_ hs_ => hk.2 i_ hi_ hs_ (by simp)⟩ (NB110_106.out))
                            have n1_ := Aside0.mk (hb)
                            have n2_ := Aside0.mk (hi)
                            clear HI110
                            clear HB
                            clear HI106
                            have HI110 := n0_
                            have HB := n1_
                            have HI106 := n2_
                            clear n0_ n1_ n2_
                            (try clear hb)
                            (try clear hb2)
                            (try clear hk)
                            (try clear hi)
                            refine hK.out _ _ ⟨cellOf46_1 HI110.out, cellOf46_2 HI110.out⟩ (fun hHeld => ?_)
                            clear hK K
                            refine norm_ (a' := ?_) ?_ ?_
                            rotate_left
                            · show Act.put _ (some 101) _ = _
                              simp only [Act.put, List.setIfInBounds_toArray, List.set_cons_zero, List.set_cons_succ, i64_w, i32_w]
                              rfl
                            refine pure_ (i := 9) (N := some 106) (v := ?_) (a' := ?_) #[true, true, true, true, true, true, true, true, true, true, false, false, false, false, false, false, false, false] rfl rfl (any_of HT_.out (by kernel_rfl)) (fun _ _ _ h => h) (Or.inl ⟨by rfl, ?_⟩) ?_ ?_
                            rotate_left
                            · intro w'
                              go_simp
                              with_reducible rfl
                            rotate_left
                            · simp only [Act.put, List.setIfInBounds_toArray, List.set_cons_zero, List.set_cons_succ, i64_w, i32_w]
                              rfl
                            refine pure_ (i := 10) (N := some 107) (v := ?_) (a' := ?_) #[true, true, true, true, true, true, true, true, true, true, true, false, false, false, false, false, false, false] rfl rfl (any_of HT_.out (by kernel_rfl)) (fun _ _ _ h => h) (Or.inl ⟨by rfl, ?_⟩) ?_ ?_
                            rotate_left
                            · intro w'
                              go_simp
                              with_reducible rfl
                            rotate_left
                            · simp only [Act.put, List.setIfInBounds_toArray, List.set_cons_zero, List.set_cons_succ, i64_w, i32_w]
                              rfl
                            refine pure_ (i := 11) (N := some 108) (v := ?_) (a' := ?_) #[true, true, true, true, true, true, true, true, true, true, true, true, false, false, false, false, false, false] rfl rfl (any_of HT_.out (by kernel_rfl)) (fun _ _ _ h => h) (Or.inl ⟨by rfl, ?_⟩) ?_ ?_
                            rotate_left
                            · intro w'
                              go_simp
                              with_reducible rfl
                            rotate_left
                            · simp only [Act.put, List.setIfInBounds_toArray, List.set_cons_zero, List.set_cons_succ, i64_w, i32_w]
                              rfl
                            refine pure_ (i := 12) (N := some 109) (v := ?_) (a' := ?_) #[true, true, true, true, true, true, true, true, true, true, true, true, true, false, false, false, false, false] rfl rfl (any_of HT_.out (by kernel_rfl)) (fun _ _ _ h => h) (Or.inl ⟨by rfl, ?_⟩) ?_ ?_
                            rotate_left
                            · intro w'
                              go_simp
                              with_reducible rfl
                            rotate_left
                            · simp only [Act.put, List.setIfInBounds_toArray, List.set_cons_zero, List.set_cons_succ, i64_w, i32_w]
                              rfl
                            refine pure_ (i := 14) (N := some 111) (v := ?_) (a' := ?_) #[true, true, true, true, true, true, true, true, true, true, true, true, true, false, true, false, false, false] rfl rfl (any_of HT_.out (by kernel_rfl)) (fun _ _ _ h => h) (Or.inl ⟨by rfl, ?_⟩) ?_ ?_
                            rotate_left
                            · intro w'
                              go_simp
                              with_reducible rfl
                            rotate_left
                            · simp only [Act.put, List.setIfInBounds_toArray, List.set_cons_zero, List.set_cons_succ, i64_w, i32_w]
                              rfl
                            refine one_ (i := 13) (N := some 110) #[true, true, true, true, true, true, true, true, true, true, true, true, true, true, true, false, false, false] rfl rfl (one_of HT_.out (by kernel_rfl)) (by decide) (fun K hK => ?_)
                            refine goes_ Try.func29 (by kernel_rfl) rfl #[.pointer (some ⟨g106, 0, none⟩)] (by rfl) rfl rfl (by (try simp only [List.map_toArray, List.map_cons, List.map_nil]); first | done | rfl | (simp only [List.length_drop, List.length_take]; rfl)) ?_
                            with_reducible refine (kLeft.calls g106 t103 x107001_16 x107002_16 t147 w _ ?side1 ?side2 A44.out).mono ?_
                            (case side1 => repeat (first | (with_reducible first | exact HI106.out | apply IsS57.alloc | apply IsS57.drewN | apply IsS57.drew) | exact HI106.out))
                            (case side2 => repeat (first | (with_reducible first | exact HB.out | apply below_alloc | apply pw_below_drewN | apply below_drew1 | refine below_set ?_ (IsS57.ge HI106.out) | refine below_set ?_ (IsS46.ge HI110.out)) | exact HB.out))
                            rintro e w49 ⟨rfl, hi, hb, hk⟩
                            refine ⟨_, rfl, ?_⟩
                            have n0_ := Aside0.mk (IsS46.kept (show IsS46 w _ g110 t107 x111001_16 x111002_16 from by repeat (first | (with_reducible first | exact HI110.out | apply IsS46.alloc | apply IsS46.drewN | apply IsS46.drew) | exact HI110.out)) ⟨hk.1, fun i_ hi_ hs_ => hk.2 i_ hi_ hs_ (by simp)⟩ (NB110_106.out))
                            have n1_ := Aside0.mk (hb)
                            have n2_ := Aside0.mk (hi)
                            clear HI110
                            clear HB
                            clear HI106
                            have HI110 := n0_
                            have HB := n1_
                            have HI106 := n2_
                            clear n0_ n1_ n2_
                            (try clear hb)
                            (try clear hb2)
                            (try clear hk)
                            (try clear hi)
                            refine hK.out _ _ ⟨cellOf46_1 HI110.out, cellOf46_2 HI110.out⟩ (fun hHeld => ?_)
                            clear hK K
                            refine norm_ (a' := ?_) ?_ ?_
                            rotate_left
                            · show Act.put _ (some 110) _ = _
                              simp only [Act.put, List.setIfInBounds_toArray, List.set_cons_zero, List.set_cons_succ, i64_w, i32_w]
                              rfl
                            refine one_ (i := 15) (N := some 112) #[true, true, true, true, true, true, true, true, true, true, true, true, true, true, true, true, false, false] rfl rfl (one_of HT_.out (by kernel_rfl)) (by decide) (fun K hK => ?_)
                            refine goes_ Try.func30 (by kernel_rfl) rfl #[.pointer (some ⟨g110, 0, none⟩)] (by rfl) rfl rfl (by (try simp only [List.map_toArray, List.map_cons, List.map_nil]); first | done | rfl | (simp only [List.length_drop, List.length_take]; rfl)) ?_
                            with_reducible refine (xLeft.calls g110 t107 x111001_16 x111002_16 t148 w _ ?side1 ?side2 A45.out).mono ?_
                            (case side1 => repeat (first | (with_reducible first | exact HI110.out | apply IsS46.alloc | apply IsS46.drewN | apply IsS46.drew) | exact HI110.out))
                            (case side2 => repeat (first | (with_reducible first | exact HB.out | apply below_alloc | apply pw_below_drewN | apply below_drew1 | refine below_set ?_ (IsS57.ge HI106.out) | refine below_set ?_ (IsS46.ge HI110.out)) | exact HB.out))
                            rintro e w50 ⟨rfl, hi, hb, hk⟩
                            refine ⟨_, rfl, ?_⟩
                            have n0_ := Aside0.mk (keepRd (show IsS57 w _ g106 t103 x107001_16 x107002_16 from by repeat (first | (with_reducible first | exact HI106.out | apply IsS57.alloc | apply IsS57.drewN | apply IsS57.drew) | exact HI106.out)) hk (NB106_110.out))
                            have n1_ := Aside0.mk (hb)
                            have n2_ := Aside0.mk (hi)
                            clear HI106
                            clear HB
                            clear HI110
                            have HI106 := n0_
                            have HB := n1_
                            have HI110 := n2_
                            clear n0_ n1_ n2_
                            (try clear hb)
                            (try clear hb2)
                            (try clear hk.all)
                            (try clear hi)
                            refine hK.out _ _ ⟨cellOf46_1 HI110.out, cellOf46_2 HI110.out⟩ (fun hHeld => ?_)
                            clear hK K
                            refine norm_ (a' := ?_) ?_ ?_
                            rotate_left
                            · show Act.put _ (some 112) _ = _
                              simp only [Act.put, List.setIfInBounds_toArray, List.set_cons_zero, List.set_cons_succ, i64_w, i32_w]
                              rfl
                            refine pure_ (i := 16) (N := some 113) (v := ?_) (a' := ?_) #[true, true, true, true, true, true, true, true, true, true, true, true, true, true, true, true, true, false] rfl rfl (any_of HT_.out (by kernel_rfl)) (fun _ _ _ h => h) (Or.inl ⟨by rfl, ?_⟩) ?_ ?_
                            rotate_left
                            · intro w'
                              go_simp
                              with_reducible rfl
                            rotate_left
                            · simp only [Act.put, List.setIfInBounds_toArray, List.set_cons_zero, List.set_cons_succ, i64_w, i32_w]
                              rfl
                            refine pure_ (i := 17) (N := some 114) (v := ?_) (a' := ?_) #[true, true, true, true, true, true, true, true, true, true, true, true, true, true, true, true, true, true] rfl rfl (any_of HT_.out (by kernel_rfl)) (fun _ _ _ h => h) (Or.inl ⟨by rfl, ?_⟩) ?_ ?_
                            rotate_left
                            · intro w'
                              go_simp
                              with_reducible rfl
                            rotate_left
                            · simp only [Act.put, List.setIfInBounds_toArray, List.set_cons_zero, List.set_cons_succ, i64_w, i32_w]
                              rfl
                            refine done_ (done_of HT_.out (by kernel_rfl)) ?_
                            try go_wp2
                            go_roundg kj16
                            case measure => have := HJ4.out; have := HK2.out; have := HJ16.out; omega
                            case rel => exact ⟨(wrap64 (x7_2 + 1)), (x107001_16), (x107002_16), (x111001_16), (x111002_16), (by first | rfl | (simp; done) | (simp [*]; done)), H', ⟨by have := HJ4.out; have := HK2.out; have := HJ16.out; omega⟩, ⟨by repeat (first | (with_reducible first | exact HI106.out | apply IsS57.alloc | apply IsS57.drewN | apply IsS57.drew) | exact HI106.out)⟩, ⟨by repeat (first | (with_reducible first | exact HI110.out | apply IsS46.alloc | apply IsS46.drewN | apply IsS46.drew) | exact HI110.out)⟩, ⟨by repeat (first | (with_reducible first | exact HB.out | apply below_alloc | apply pw_below_drewN | apply below_drew1 | refine below_set ?_ (IsS57.ge HI106.out) | refine below_set ?_ (IsS46.ge HI110.out)) | exact HB.out)⟩⟩
                          · rw [if_neg c46] at H
                            have c46b0 : (t147 == t148) = false := beq_eq_false_iff_ne.mpr c46
                            have c46b1 : (t147 != t148) = true := bne_iff_ne.mpr c46
                            exact absurd ((Option.some.inj H).trans hr_.out) (by simp)
                        · rw [if_neg c43] at H
                          have c43b0 : (t146 == x111002_16) = false := beq_eq_false_iff_ne.mpr c43
                          have c43b1 : (t146 != x111002_16) = true := bne_iff_ne.mpr c43
                          exact absurd ((Option.some.inj H).trans hr_.out) (by simp)
                      · replace c41 := Bool.eq_false_iff.mpr c41
                        subst c41
                        have H1 : (some false) = some r := by rw [if_neg (show ¬ (false = true) by decide)] at H; exact H
                        clear H
                        have H := H1
                        clear H1
                        exact absurd ((Option.some.inj H).trans hr_.out) (by simp)
                · rw [if_neg c16] at H
                  exact absurd H (by simp)
              · rw [if_neg c15] at H
                have c15b0 : decide (x7_2 < (l1.length : Int)) = false := decide_eq_false c15
                clear c15
                replace H := Option.bind_eq_some_iff.mp H
                obtain ⟨t111, A510, H⟩ := H
                replace H : (if t111 = true then ((kEnd.f t103 x107001_2 x107002_2).bind fun t112 => ((xEnd.f t107 x111001_2 x111002_2).bind fun t113 => (some (t112 == t113)))) else (some false)) = some r := H
                have A51 := Aside0.mk A510
                clear A510
                by_cases c52 : t111 = true
                · subst c52
                  have H1 : ((kEnd.f t103 x107001_2 x107002_2).bind fun t112 => ((xEnd.f t107 x111001_2 x111002_2).bind fun t113 => (some (t112 == t113)))) = some r := by rw [if_pos rfl] at H; exact H
                  clear H
                  have H := H1
                  clear H1
                  replace H := Option.bind_eq_some_iff.mp H
                  obtain ⟨t112, A530, H⟩ := H
                  replace H : ((xEnd.f t107 x111001_2 x111002_2).bind fun t113 => (some (t112 == t113))) = some r := H
                  have A53 := Aside0.mk A530
                  clear A530
                  replace H := Option.bind_eq_some_iff.mp H
                  obtain ⟨t113, A540, H⟩ := H
                  replace H : (some (t112 == t113)) = some r := H
                  have A54 := Aside0.mk A540
                  clear A540
                  obtain rfl := Option.some.inj H
                  go_wp2_with (first | ((with_reducible refine gate_callee (f := 9) rfl ?_); refine goesL_ (some 115) rfl rfl Try.func9 (by kernel_rfl) rfl #[] rfl (by (try simp only [List.map_toArray, List.map_cons, List.map_nil]); first | done | rfl | (simp only [List.length_drop, List.length_take]; rfl)) ?_; (with_reducible refine (tiklaw2_first.calls  true _ A51.out).mono ?_); rintro e w55 ⟨rfl, hb⟩; refine ⟨_, rfl, ?_⟩; have n0_ := Aside0.mk (IsS57.below (by repeat (first | (with_reducible first | exact HI106.out | apply IsS57.alloc | apply IsS57.drewN | apply IsS57.drew) | exact HI106.out)) hb); have n1_ := Aside0.mk (IsS46.below (by repeat (first | (with_reducible first | exact HI110.out | apply IsS46.alloc | apply IsS46.drewN | apply IsS46.drew) | exact HI110.out)) hb); have n2_ := Aside0.mk (below_step (by repeat (first | (with_reducible first | exact HB.out | apply below_alloc | apply pw_below_drewN | apply below_drew1 | refine below_set ?_ (IsS57.ge HI106.out) | refine below_set ?_ (IsS46.ge HI110.out)) | exact HB.out)) hb); clear HI106; clear HI110; clear HB; have HI106 := n0_; have HI110 := n1_; have HB := n2_; clear n0_ n1_ n2_; (try clear hb); (try clear hb2); (try clear hk); (try clear hi)) | (go_at_call 22; (with_reducible refine (kEnd.calls g106 t103 x107001_2 x107002_2 t112 w _ ?side1 ?side2 A53.out).mono ?_); (case side1 => repeat (first | (with_reducible first | exact HI106.out | apply IsS57.alloc | apply IsS57.drewN | apply IsS57.drew) | exact HI106.out)); (case side2 => repeat (first | (with_reducible first | exact HB.out | apply below_alloc | apply pw_below_drewN | apply below_drew1 | refine below_set ?_ (IsS57.ge HI106.out) | refine below_set ?_ (IsS46.ge HI110.out)) | exact HB.out)); rintro e w56 ⟨rfl, hi, hb, hk⟩; have n0_ := Aside0.mk (IsS46.kept (show IsS46 w _ g110 t107 x111001_2 x111002_2 from by repeat (first | (with_reducible first | exact HI110.out | apply IsS46.alloc | apply IsS46.drewN | apply IsS46.drew) | exact HI110.out)) ⟨hk.1, fun i_ hi_ hs_ => hk.2 i_ hi_ hs_ (by simp)⟩ (NB110_106.out)); have n1_ := Aside0.mk (hb); have n2_ := Aside0.mk (hi); clear HI110; clear HB; clear HI106; have HI110 := n0_; have HB := n1_; have HI106 := n2_; clear n0_ n1_ n2_; (try clear hb); (try clear hb2); (try clear hk); (try clear hi)) | (go_at_call 31; (with_reducible refine (xEnd.calls g110 t107 x111001_2 x111002_2 t113 w _ ?side1 ?side2 A54.out).mono ?_); (case side1 => repeat (first | (with_reducible first | exact HI110.out | apply IsS46.alloc | apply IsS46.drewN | apply IsS46.drew) | exact HI110.out)); (case side2 => repeat (first | (with_reducible first | exact HB.out | apply below_alloc | apply pw_below_drewN | apply below_drew1 | refine below_set ?_ (IsS57.ge HI106.out) | refine below_set ?_ (IsS46.ge HI110.out)) | exact HB.out)); rintro e w57 ⟨rfl, hi, hb, hk⟩; have n0_ := Aside0.mk (keepRd (show IsS57 w _ g106 t103 x107001_2 x107002_2 from by repeat (first | (with_reducible first | exact HI106.out | apply IsS57.alloc | apply IsS57.drewN | apply IsS57.drew) | exact HI106.out)) hk (NB106_110.out)); have n1_ := Aside0.mk (hb); have n2_ := Aside0.mk (hi); clear HI106; clear HB; clear HI110; have HI106 := n0_; have HB := n1_; have HI110 := n2_; clear n0_ n1_ n2_; (try clear hb); (try clear hb2); (try clear hk.all); (try clear hi)))
                  go_ret
                  exact ⟨by first | rfl | (simp [errW_none, errW_some] <;> rfl) | (simp [*, errW_none, errW_some] <;> rfl), by repeat (first | (with_reducible first | exact HB.out | apply below_alloc | apply pw_below_drewN | apply below_drew1 | refine below_set ?_ (IsS57.ge HI106.out) | refine below_set ?_ (IsS46.ge HI110.out)) | exact HB.out)⟩
                · replace c52 := Bool.eq_false_iff.mpr c52
                  subst c52
                  have H1 : (some false) = some r := by rw [if_neg (show ¬ (false = true) by decide)] at H; exact H
                  clear H
                  have H := H1
                  clear H1
                  exact absurd ((Option.some.inj H).trans hr_.out) (by simp)
  · replace c4 := Bool.eq_false_iff.mpr c4
    subst c4
    have H1 : (some false) = some r := by rw [if_neg (show ¬ (false = true) by decide)] at H; exact H
    clear H
    have H := H1
    clear H1
    exact absurd ((Option.some.inj H).trans hr_.out) (by simp)

end Go.Proofs.Ytabljieejnhefaa.PR
/-
  WireReads: the program's Reader and the document's read alike. No program.
-/
namespace Go.Proofs.Ytabljieejnhefaa.Hand
open Go.RowKit Go.Proofs.YtabljieejnhefaaW.PrintWords Go.Proofs.YtabljieejnhefaaW.PrintLast Go.Proofs.YtabljieejnhefaaW.PrintMore Go.Proofs.Ytabljieejnhefaa.PA Go.Proofs.Ytabljieejnhefaa.PK Go.Proofs.Ytabljieejnhefaa.PR
set_option linter.unusedSimpArgs false
set_option linter.unusedVariables false

theorem numL_end (l : List Int) : ∀ (k i : Nat) (n p : Int) (m q : Int), 0 ≤ p → p ≤ l.length → numL l k i n p = .ok (m, q) → p ≤ q ∧ q ≤ l.length
  | 0, i, n, p, m, q, h0, h1, h => by simp only [numL] at h; cases h
  | k + 1, i, n, p, m, q, h0, h1, h => by
    simp only [numL] at h
    by_cases h2 : p = l.length
    · rw [if_pos h2] at h; cases h
    rw [if_neg h2] at h
    split at h
    · cases h
    · split at h
      · injection h with h; injection h with h3 h4; omega
      · have := numL_end l k _ _ _ m q (by omega) (by omega) h
        omega
/-- Where a Reader stands, and why it failed. -/
structure RdOk (l : List Int) (p e : Int) : Prop where
  p0 : 0 ≤ p
  p1 : p ≤ l.length
theorem num_both {l : List Int} {p e m : Int} (hb : Bytes255 l) (hl : l.length ≤ 2000) (I : RdOk l p e) (k : Nat) (hk : 30 ≤ k) :
    ∃ n q x, wire_Reader_Num.f l p e m = some (n, q, x) ∧ tikref2_Reader_Num.f k l p e m = some (n, q, x) ∧ RdOk l q x ∧ (x = 0 → upL l p m = .ok (n, q) ∧ e = 0) ∧ (x ≠ 0 → n = 0 ∧ q = p) ∧ (e = 0 → ∀ y, upL l p m = .error y → x = y) ∧ (e ≠ 0 → x = e) := by
  unfold wire_Reader_Num.f rdNum tikref2_Reader_Num.f
  by_cases he : e = 0
  · subst he
    rw [if_neg (by simp), if_pos rfl, refGet_any l (by omega) hb p k hk, Option.bind_some]
    have hv : getV l p = numOut (numL l 10 0 0 p) := by unfold getV; rw [if_neg (by have := I.p0; omega), if_neg (by have := I.p1; omega)]
    rw [hv]
    cases hn : numL l 10 0 0 p with
    | error x =>
      have hx : x ≠ 0 := by have := numL_nz l _ _ _ _ _ hn; simpa using this
      have hu : upL l p m = .error x := by unfold upL; rw [hn]
      rw [hu, show numOut (Except.error x : Except Int (Int × Int)) = (0, 0, x) from rfl]
      dsimp only
      rw [if_neg hx]
      exact ⟨_, _, _, rfl, rfl, ⟨I.p0, I.p1⟩, fun h => absurd h hx, fun _ => ⟨rfl, rfl⟩, fun _ y hy => by injection hy, fun h => absurd rfl h⟩
    | ok nq =>
      obtain ⟨n, q⟩ := nq
      have hq := numL_end l 10 0 0 p n q I.p0 I.p1 hn
      rw [show numOut (Except.ok (n, q)) = (n, q, 0) from rfl]
      dsimp only
      rw [if_pos rfl]
      by_cases hm : n > m
      · have hu : upL l p m = .error 1 := by unfold upL; rw [hn]; exact if_pos hm
        rw [hu, if_pos hm]
        exact ⟨_, _, _, rfl, rfl, ⟨I.p0, I.p1⟩, fun h => absurd h (by decide), fun _ => ⟨rfl, rfl⟩, fun _ y hy => by injection hy, fun h => absurd rfl h⟩
      · have hu : upL l p m = .ok (n, q) := by unfold upL; rw [hn]; exact if_neg hm
        rw [hu, if_neg hm]
        exact ⟨_, _, _, rfl, rfl, ⟨by have := I.p0; omega, hq.2⟩, fun _ => ⟨rfl, rfl⟩, fun h => absurd rfl h, fun _ y hy => (by cases hy), fun h => absurd rfl h⟩
  · rw [if_pos he, if_neg he]
    exact ⟨_, _, _, rfl, rfl, ⟨I.p0, I.p1⟩, fun h => absurd h he, fun _ => ⟨rfl, rfl⟩, fun h => absurd h he, fun _ => rfl⟩
theorem raw_both {l : List Int} {p e n : Int} (hl : l.length ≤ 2000) (I : RdOk l p e) (hn : n ≤ 9223372036854775807) :
    ∃ y q x, wire_Reader_Raw.f l p e n = some (y, q, x) ∧ xRaw.f l p e n = some (y, q, x) ∧ RdOk l q x := by
  have p0 := I.p0
  have p1 := I.p1
  unfold wire_Reader_Raw.f xRaw.f tikref2_Reader_Raw.f rdRaw
  rw [if_pos hn]
  by_cases he : e = 0
  · subst he
    rw [if_neg (by simp), if_pos rfl]
    unfold rawM rawL
    by_cases h1 : n < 0
    · rw [if_pos h1, if_pos h1]
      exact ⟨_, _, _, rfl, rfl, ⟨p0, p1⟩⟩
    · rw [if_neg h1, if_neg h1, if_pos (show 0 ≤ p ∧ p ≤ (l.length : Int) ∧ l.length < 140737488355328 from ⟨p0, p1, by omega⟩)]
      by_cases h2 : n > l.length - p
      · rw [if_pos h2, if_pos h2]
        exact ⟨_, _, _, rfl, rfl, ⟨p0, p1⟩⟩
      · rw [if_neg h2, if_neg h2]
        exact ⟨_, _, _, rfl, rfl, ⟨by omega, by omega⟩⟩
  · rw [if_pos he, if_neg he]
    exact ⟨_, _, _, rfl, rfl, ⟨p0, p1⟩⟩
theorem text_both {l : List Int} {p e m : Int} (hb : Bytes255 l) (hl : l.length ≤ 2000) (I : RdOk l p e) (m0 : 0 ≤ m) (m1 : m ≤ 9223372036854775807) (k : Nat) (hk : 30 ≤ k) :
    ∃ y q x, wire_Reader_Text.f l p e m = some (y, q, x) ∧ xText.f k l p e m = some (y, q, x) ∧ RdOk l q x := by
  obtain ⟨n, q, x, _, h2, I2, hok, hbad, herr, hold⟩ := num_both (m := m) hb hl I k hk
  have q0 := I2.p0
  have q1 := I2.p1
  unfold wire_Reader_Text.f xText.f tikref2_Reader_Text.f rdText
  rw [if_pos m1, h2, Option.bind_some]
  dsimp only
  by_cases he : e = 0
  · rw [if_neg (by simpa using he)]
    by_cases hx : x = 0
    · obtain ⟨hu, _⟩ := hok hx
      have n0 := upL_nn l p m hu
      have n1 := upL_range l p m hu (by omega)
      rw [if_pos hx, if_pos (show 0 ≤ n ∧ n < 18446744073709551616 ∧ 0 ≤ q ∧ q ≤ (l.length : Int) ∧ l.length < 140737488355328 from ⟨n0, by omega, q0, q1, by omega⟩)]
      unfold textL textOf
      rw [if_neg (by omega), hu]
      unfold rawL
      dsimp only
      by_cases h3 : n > l.length - q
      · rw [if_pos h3, if_pos h3]
        exact ⟨_, _, _, rfl, rfl, ⟨I.p0, I.p1⟩⟩
      · rw [if_neg h3, if_neg h3]
        exact ⟨_, _, _, rfl, rfl, ⟨by omega, by omega⟩⟩
    · rw [if_neg hx]
      obtain ⟨_, rfl⟩ := hbad hx
      unfold textL
      rw [if_neg (by omega)]
      cases hu : upL l q m with
      | ok z =>
        obtain ⟨a, b⟩ := z
        exfalso
        have h5 : tikref2_Reader_Num.f k l q e m = _ := h2
        obtain ⟨n', q', x', g1, g2, _, _, _, _, _⟩ := num_both (m := m) hb hl I k hk
        rw [h2] at g2
        obtain ⟨rfl, rfl, rfl⟩ : n = n' ∧ q = q' ∧ x = x' := by simpa using Option.some.inj g2
        unfold wire_Reader_Num.f rdNum at g1
        rw [if_neg (by simpa using he), hu] at g1
        obtain ⟨_, _, h6⟩ : a = n ∧ b = q ∧ (0 : Int) = x := by simpa using Option.some.inj g1
        exact hx h6.symm
      | error y =>
        obtain rfl := herr he y hu
        exact ⟨_, _, _, rfl, rfl, I2⟩
  · have hx := hold he
    subst hx
    rw [if_pos he, if_neg he]
    obtain ⟨_, rfl⟩ := hbad he
    exact ⟨_, _, _, rfl, rfl, I2⟩
theorem left_both {l : List Int} {p e : Int} (hl : l.length ≤ 2000) (I : RdOk l p e) : kLeft.f l p e = some (l.length - p) ∧ xLeft.f l p e = some (l.length - p) := by
  have p0 := I.p0
  have p1 := I.p1
  refine ⟨?_, ?_⟩
  · unfold kLeft.f wire_Reader_Left.f
    exact if_pos rfl
  · unfold xLeft.f rLeft.f tikref2_Reader_Left.f
    rw [IntWalk.wrap64_in _ (by omega)]
    exact if_pos rfl
theorem end_both {l : List Int} {p e : Int} (hl : l.length ≤ 2000) (I : RdOk l p e) : ∃ x, kEnd.f l p e = some x ∧ xEnd.f l p e = some x := by
  have p0 := I.p0
  have p1 := I.p1
  refine ⟨if e = 0 ∧ p < l.length then 4 else e, if_pos rfl, ?_⟩
  unfold xEnd.f rEnd.f tikref2_Reader_End.f
  by_cases he : e = 0
  · rw [if_pos he]
    unfold tikref2_Reader_Left.f
    rw [IntWalk.wrap64_in _ (by omega), Option.bind_some]
    dsimp only
    by_cases h2 : p < l.length
    · rw [if_pos (by omega), if_pos ⟨he, h2⟩]
      exact if_pos rfl
    · rw [if_neg (by omega), if_neg (fun h => h2 h.2)]
      exact if_pos rfl
  · rw [if_neg he, if_neg (fun h => he h.1)]
    exact if_pos rfl
structure OkStep (o : S48) : Prop where
  h : -9223372036854775808 ≤ o.f1 ∧ o.f1 ≤ 9223372036854775807
theorem rd_step {l : List S48} (h : ∀ o ∈ l, OkStep o) (i : Nat) (hi : i < l.length) : OkStep (rd_T48 l (i : Int)) := by
  unfold rd_T48
  rw [Int.toNat_natCast, List.getD_eq_getElem?_getD, List.getElem?_eq_getElem hi]
  exact h _ (List.getElem_mem hi)
theorem reads_l0 {l : List Int} (hb : Bytes255 l) (hl : l.length ≤ 2000) (s : List S48) (hs : s.length ≤ 200) (hw : ∀ o ∈ s, OkStep o) :
    ∀ (j K i : Nat) (p e : Int), i + j = s.length → RdOk l p e → tiklaw2_WireReads.l0 (K + 2 * j + 31) s (i : Int) l p e l p e = some true := by
  intro j
  induction j with
  | zero =>
    intro K i p e hi I
    obtain ⟨x, e1, e2⟩ := end_both hl I
    rw [tiklaw2_WireReads.l0, if_neg (by omega), show tiklaw2_first.f = some true from rfl, Option.bind_some, if_pos rfl, e1, Option.bind_some, e2, Option.bind_some, beq_self_eq_true]
  | succ j ih =>
    intro K i p e hi I
    have ho := (rd_step hw i (by omega)).h
    have w3 : wrap64 ((i : Int) + 1) = ((i + 1 : Nat) : Int) := by rw [IntWalk.wrap64_in _ (by omega)]; omega
    have go : ∀ q x, RdOk l q x → tiklaw2_WireReads.j2 (K + 2 * j + 31 + 1) s (i : Int) true l q x l q x = some true := by
      intro q x I2
      obtain ⟨e1, e2⟩ := left_both hl I2
      have hE : kErr.f l q x = some x := if_pos rfl
      rw [tiklaw2_WireReads.j2, if_pos rfl, hE, Option.bind_some, if_pos rfl, e1, Option.bind_some, e2, Option.bind_some, if_pos rfl, w3]
      exact ih K (i + 1) q x (by omega) I2
    rw [show K + 2 * (j + 1) + 31 = (K + 2 * j + 31 + 1) + 1 by omega, tiklaw2_WireReads.l0, if_pos (by omega), if_pos (by omega)]
    generalize rd_T48 s (i : Int) = o at *
    by_cases q0 : o.f0 = 0
    · rw [if_pos q0]
      obtain ⟨n, q, x, e1, e2, I2, _⟩ := num_both (m := IntKind.u64.wrap o.f1) hb hl I (K + 2 * j + 31 + 1) (by omega)
      have e2' : xNum.f (K + 2 * j + 31 + 1) l p e (IntKind.u64.wrap o.f1) = _ := e2
      rw [e1, Option.bind_some, e2', Option.bind_some]
      dsimp only
      rw [beq_self_eq_true]
      exact go q x I2
    · rw [if_neg q0]
      by_cases q1 : o.f0 = 1
      · rw [if_pos q1]
        obtain ⟨y, q, x, e1, e2, I2⟩ := raw_both (n := o.f1) hl I ho.2
        rw [e1, Option.bind_some, e2, Option.bind_some]
        dsimp only
        rw [bytes_same, Option.bind_some]
        exact go q x I2
      · rw [if_neg q1]
        by_cases q2 : o.f1 < 0
        · rw [if_pos q2]; rfl
        · rw [if_neg q2, IntWalk.u64_in o.f1 (by omega)]
          obtain ⟨y, q, x, e1, e2, I2⟩ := text_both (m := o.f1) hb hl I (by omega) ho.2 (K + 2 * j + 31 + 1) (by omega)
          rw [e1, Option.bind_some, e2, Option.bind_some]
          dsimp only
          rw [beq_self_eq_true]
          exact go q x I2
theorem reads_any {l : List Int} (hb : Bytes255 l) (s : List S48) (hw : ∀ o ∈ s, OkStep o) (K : Nat) (hK : s.length = K) : tiklaw2_WireReads.f (2 * K + 32) l s = some true := by
  have bad : tiklaw2_WireReads.j0 (2 * K + 32) l s true = some true := by
    rw [tiklaw2_WireReads.j0, if_pos rfl]; rfl
  unfold tiklaw2_WireReads.f
  rw [show tiklaw2_first.f = some true from rfl, Option.bind_some, if_pos rfl]
  by_cases h1 : (l.length : Int) > 2000
  · rw [if_pos h1, bad]
  rw [if_neg h1]
  by_cases h2 : (s.length : Int) > 200
  · rw [decide_eq_true h2, bad]
  have hn : newReader.f l = some (l, 0, 0) := if_pos (by omega)
  rw [decide_eq_false h2, tiklaw2_WireReads.j0, if_neg (by decide), hn, Option.bind_some, show refReader.f l = some (l, 0, 0) from rfl, Option.bind_some, if_neg (by decide)]
  dsimp only
  have := reads_l0 hb (by omega) s (by omega) hw K 0 0 0 0 (by omega) ⟨by omega, by omega⟩
  rw [show 0 + 2 * K + 31 = 2 * K + 31 by omega] at this
  exact this
end Go.Proofs.Ytabljieejnhefaa.Hand
namespace Go.Proofs.Ytabljieejnhefaa.RowWireReads
open Go.ChangeShapes Go.WideShapes Go.ChangeAt Go.RowKit
open Go.ChangeMaps (open_string shut_string)
open Go.Proofs.YtabljieejnhefaaW.PrintWords Go.Proofs.Ytabljieejnhefaa.Opens
open Go.Proofs.Ytabljieejnhefaa.Hand
open Go.Proofs.Ytabljieejnhefaa.PR
open Go.Proofs.Ytabljieejnhefaa
set_option linter.unusedVariables false
set_option linter.unusedSimpArgs false
theorem ownK : ownKnob Try.prog.godebug = none := by kernel_rfl
theorem laidOut : laidOutB Try.prog = true := by kernel_rfl
theorem o48 : Opens Try.prog 48 PR.k48 (fun b => (Lit.int .i64 b.f0).wf = true ∧ (Lit.int .i64 b.f1).wf = true) := o_map (f := fun x : PR.S48 => (x.f0, x.f1)) (o_struct Try.underlying48 (by kernel_rfl) (f_cons rfl (by kernel_rfl) (o_int Try.underlying3) (f_last rfl (by kernel_rfl) (o_int Try.underlying3)))) (fun p => ⟨p.1, p.2⟩) (fun _ => rfl)
set_option maxRecDepth 100000 in
theorem lifted (os : Os) (started : os.Started) (H : Type) (enc : TypeId × Value → H) :
    ReturnsInHanded {} Try.checked os 7 .any (Rows.wireReadsSpec.pre6 enc Try.prog Try.f7 Rows.wireReadsRow.domain false) (Rows.wireReadsSpec.post enc Try.prog Try.f7 false true false false) := by
  refine returnsInHanded_of_change_sized (C := Try.checked) ownK started (by kernel_rfl) Try.func7
    (ChangeSpec.witness6 (enc := enc) (C := Try.checked) false ⟨#[], #[.slice none 0 0, .slice none 0 0], []⟩ 8 (by kernel_rfl) (by kernel_rfl) (by kernel_rfl) (by kernel_rfl)) ?_
  intro W base args ds gs before hval0 hW hcnd hsz0 _
  have hsz : (DataW.weightsEach Try.prog (Try.f7.params.toList ++ Rows.wireReadsSpec.plain.varTypes Try.prog) (ds ++ gs)).all (· ≤ reachBytes) = true := hsz0
  have hval : ∀ (j : Nat) t v, Try.f7.params[j]? = some t → args[j]? = some v → Value.okWide Try.prog W .any base t v := hval0
  have hW' := hW
  obtain ⟨p, q, hA0, hV, rfl, hfz, hnd⟩ := hW
  have hA : DataW.TrodAll enc Try.prog W 0 (fun _ => true) true Try.f7.params.toList args.toList ds p := hA0
  rw [Try.params7] at hA hval hsz
  obtain ⟨v0, vs0, d0, ds0, p0, q0, hargs, rfl, rfl, h0, r0⟩ := trodAll_cons hA
  obtain ⟨v1, vs1, d1, ds1, p1, q1, rfl, rfl, rfl, h1, r1⟩ := trodAll_cons r0
  obtain ⟨rfl, rfl, rfl⟩ := trodAll_nil r1
  obtain rfl : args = #[v0, v1] := by cases args; simp_all
  obtain ⟨rfl, rfl⟩ := trodVars_none hV
  have k0 := h0
  have lt0 : ∀ x ∈ p0, x.block < W.heap.size := by obtain ⟨m, hm⟩ := k0; exact DataW.trod_lt m _ _ _ hm
  obtain ⟨l0, ⟨A0, c0, e0, hc0, hC0⟩, q0⟩ := open_arg (o_slice Try.underlying23 (by kernel_rfl) (o_int Try.underlying5)) h0
  obtain ⟨_, _, _, z0⟩ := okWide_slice Try.underlying23 (hval 0 23 v0 rfl rfl)
  obtain rfl : v0 = .slice A0 l0.length c0 := by subst z0; simpa [Value.cells] using e0
  have y0 := sized_any hsz (j := 0) (t := 23) rfl rfl Try.underlying23 h0
  have k1 := h1
  have lt1 : ∀ x ∈ p1, x.block < W.heap.size := by obtain ⟨m, hm⟩ := k1; exact DataW.trod_lt m _ _ _ hm
  obtain ⟨l1, ⟨A1, c1, e1, hc1, hC1⟩, q1⟩ := open_arg (o_slice Try.underlying43 (by kernel_rfl) o48) h1
  obtain ⟨_, _, _, z1⟩ := okWide_slice Try.underlying43 (hval 1 43 v1 rfl rfl)
  obtain rfl : v1 = .slice A1 l1.length c1 := by subst z1; simpa [Value.cells] using e1
  have y1 := sized_any hsz (j := 1) (t := 43) rfl rfl Try.underlying43 h1
  clear hA0 hval0
  refine (PR.tiklaw2_WireReads.calls (2 * l1.length + 32) A0 c0 l0 A1 c1 l1 true W hC0 hc0 hC1 hc1 ⟨rfl⟩ (reads_any (fun x hx => by have := bounds_u8 (q0.2 x hx); omega) l1 (fun o ho => ⟨by have := bounds_i64 (q1.2 o ho).2; omega⟩) l1.length rfl)).mono fun e W' ⟨he, bel⟩ => ?_
  subst he
  exact ⟨_, rfl, _, _, _, [], _, [], hW', trodAll_mk1 (shut_bool Try.underlying4 _), (trodAll_cons_mk (Below.trod laidOut (by kernel_rfl) (of_decide_eq_true (by kernel_rfl)) k0 bel lt0) (trodAll_cons_mk (Below.trod laidOut (by kernel_rfl) (of_decide_eq_true (by kernel_rfl)) k1 bel lt1) trodAll_mk0)), rfl, bel.frame _, fun h => by cases h⟩
theorem over : Rows.wireReadsRow.holds Try.pinned (OpenSpec.ofChange Rows.wireReadsSpec) :=
  OpenClaim.holds_of_wide 7 Try.f7 rfl rfl rfl rfl rfl rfl rfl ⟨rfl, rfl, rfl, rfl, rfl⟩ rfl rfl rfl rfl rfl (by kernel_rfl) Try.func7 (by kernel_rfl)
    (of_decide_eq_true (by kernel_rfl)) (by unfold Func.isWrapper; first | (rw [if_pos (by decide +kernel)]; kernel_rfl) | (rw [if_neg (by decide +kernel)]; exact ⟨rfl, rfl⟩))
    (fun os started H enc _ => lifted os started H enc)
#print axioms over
end Go.Proofs.Ytabljieejnhefaa.RowWireReads
namespace Go.Proofs.Ytabljieejnhefaa
theorem wireReads_holds : Rows.WireReadsSaid := RowWireReads.over
end Go.Proofs.Ytabljieejnhefaa
